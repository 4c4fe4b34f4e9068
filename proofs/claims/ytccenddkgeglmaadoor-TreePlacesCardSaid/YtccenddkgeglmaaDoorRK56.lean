/- The tree's reader: statements (printed by gen56.py). -/
import Derived.Test.YtccenddkgeglmaaDoorRK53
set_option linter.all false
set_option linter.unusedVariables false
set_option linter.unusedSimpArgs false
namespace Go.Ev
open Go
set_option maxRecDepth 100000
set_option maxHeartbeats 4000000

theorem stmt_tok {E m : Nat} {b : PT} (hb : PSpecB m 84 E b) (hfb : FineM m b) : PSpecB m 103 E (stmtP E b) := by
  intro h r lv ts Q hp hsm hm hQ
  refine WF.code F103 rfl ?_
  have hlt := hp.hi
  simp (disch := first | omega | (simp only [hN] <;> omega) | fail) only [go_sem, simprocAttr]
  refine here_tok (E := E) (lv := lv) (ts := ts) (hp.fr ⟨by first | omega | (simp only [hN]; omega), fun b hb hne => by (try simp only [hN] at hb hne); simp (disch := first | omega | (simp only [hN] <;> omega) | fail) only [go_sem, simprocAttr]⟩) ?_
  intro h1 hf1
  have hn1 := hf1.n; try simp only [hN] at hn1
  have q0 : h1.get h.n = some ⟨0, .cells .own 0 zN⟩ := by simp (disch := first | omega | (simp only [hN] <;> omega) | fail) only [go_sem, simprocAttr, hf1.old]
  have hf : ∀ b', b' < h.n → h1.get b' = h.get b' := fun b' hb' => by simp (disch := first | omega | (simp only [hN] <;> omega) | fail) only [go_sem, simprocAttr, hf1.old]
  have hp1 : PInv h1 r E ts lv := hp.fr ⟨by first | omega | (simp only [hN]; omega), fun b hb hne => by (try simp only [hN] at hb hne); simp (disch := first | omega | (simp only [hN] <;> omega) | fail) only [go_sem, simprocAttr, hf]⟩
  clear hf1
  simp (disch := first | omega | (simp only [hN] <;> omega) | fail) only [go_sem, simprocAttr, tokAV]
  refine maybe_tok hp1 ?_
  unfold stmtP at hQ
  by_cases ci : isT [[105, 102]] ts = true
  · rw [if_pos ci] at hQ ⊢
    unfold ifP at hQ
    intro h3 hf3 hp3
    have hn3 := hf3.n; try simp only [hN] at hn3
    have r0 := (hf3.old h.n (by omega) (by omega)).trans q0
    have hfr : ∀ b', b' < h.n → b' ≠ r → h3.get b' = h.get b' := fun b' hb1 hb2 => by simp (disch := first | omega | (simp only [hN] <;> omega) | fail) only [go_sem, simprocAttr, hf3.old, hf]
    have htl := tail_lt (isT_ne ci)
    clear hf3 hf hp1 q0 ci hp
    generalize (hdT E ts).pos = P at *
    generalize ts.tail = ts1 at *
    simp (disch := first | omega | (simp only [hN] <;> omega) | fail) only [go_sem, simprocAttr]
    have hfe := exprT_fine (E := E) lv ts1
    refine exprT_tok hp3 hfe.ne ?_
    cases hx : exprT E lv ts1 with
    | error e =>
      obtain ⟨e, p⟩ := e
      rw [hx] at hQ
      intro h4 hf4
      have hn4 := hf4.n; try simp only [hN] at hn4
      simp (disch := first | omega | (simp only [hN] <;> omega) | fail) only [go_sem, simprocAttr]
      exact hQ _ ⟨by first | omega | (simp only [hN]; omega), fun b hb hne => by (try simp only [hN] at hb hne); simp (disch := first | omega | (simp only [hN] <;> omega) | fail) only [go_sem, simprocAttr, hf4.old, hfr]⟩
    | ok y =>
      obtain ⟨c, ts2⟩ := y
      rw [hx] at hQ hfe
      simp only [FE] at hfe
      simp only at hQ
      intro h4 kc hf4 hp4 hk4
      have hn4 := hf4.n; try simp only [hN] at hn4
      have r4 := (hf4.old h.n (by omega) (by omega)).trans r0
      have hf4' : ∀ b', b' < h.n → b' ≠ r → h4.get b' = h.get b' := fun b' hb1 hb2 => by simp (disch := first | omega | (simp only [hN] <;> omega) | fail) only [go_sem, simprocAttr, hf4.old, hfr]
      clear hf4 hfr r0 hp3
      simp (disch := first | omega | (simp only [hN] <;> omega) | fail) only [go_sem, simprocAttr, hk4.flat.1, hk4.flat.2]
      generalize hH : AHeap.upd (AHeap.alloc (AHeap.alloc _ _) _) _ _ _ = H
      have hHn : H.n = h4.n + 2 := by rw [← hH]; simp (disch := first | omega | (simp only [hN] <;> omega) | fail) only [go_sem, simprocAttr]
      have c0 : H.get h4.n = some ⟨0, .cells .own 9 (ndC c kc)⟩ := by rw [← hH]; simp (disch := first | omega | (simp only [hN] <;> omega) | fail) only [go_sem, simprocAttr, ndC]
      have b0 : H.get (h4.n + 1) = some ⟨1, .cells .own 0 [.int .i64 21, .int .i64 (P : Int), .str [], .int .i64 0, .int .i64 0, .int .i64 0, .int .i64 0, .int .u64 0, .slice h4.n 0 1 1 true]⟩ := by rw [← hH]; simp (disch := first | omega | (simp only [hN] <;> omega) | fail) only [go_sem, simprocAttr]
      have q0 : H.get h.n = some ⟨0, .cells .own 0 zN⟩ := by rw [← hH]; simp (disch := first | omega | (simp only [hN] <;> omega) | fail) only [go_sem, simprocAttr, r4, zN]
      have hpH : PInv H r E ts2 lv := by rw [← hH]; exact hp4.le (by simp (disch := first | omega | (simp only [hN] <;> omega) | fail) only [go_sem, simprocAttr]; omega) fun b hb => by simp (disch := first | omega | (simp only [hN] <;> omega) | fail) only [go_sem, simprocAttr]
      have hfH : ∀ b', b' < h.n → b' ≠ r → H.get b' = h.get b' := fun b' hb1 hb2 => by rw [← hH]; simp (disch := first | omega | (simp only [hN] <;> omega) | fail) only [go_sem, simprocAttr, hf4']
      have hkc : KidsR (h.n + 1) H c.kids kc := by rw [← hH]; exact hk4.keep (by omega) (by simp (disch := first | omega | (simp only [hN] <;> omega) | fail) only [go_sem, simprocAttr]; omega) fun b hb1 hb2 => by simp (disch := first | omega | (simp only [hN] <;> omega) | fail) only [go_sem, simprocAttr]
      clear hH hf4' hk4 hp4 r4
      have hs2 : ts2.length ≤ 2000 := by omega
      have hm2 : ts2.length < m := by omega
      refine hb hpH hs2 hm2 ?_
      have hfb2 := hfb lv ts2 hm2
      cases hy : b lv ts2 with
      | error e =>
        obtain ⟨e, p⟩ := e
        rw [hy] at hQ
        intro h5 hf5
        have hn5 := hf5.n; try simp only [hN] at hn5
        have b5 := (hf5.old (h4.n + 1) (by omega) (by omega)).trans b0
        simp (disch := first | omega | (simp only [hN] <;> omega) | fail) only [go_sem, simprocAttr, b5, b0]
        exact hQ _ ⟨by first | omega | (simp only [hN]; omega), fun b hb hne => by (try simp only [hN] at hb hne); simp (disch := first | omega | (simp only [hN] <;> omega) | fail) only [go_sem, simprocAttr, hf5.old, hfH]⟩
      | ok y =>
        obtain ⟨x, ts3⟩ := y
        rw [hy] at hQ hfb2
        simp only [FE] at hfb2
        simp only at hQ
        intro h5 kx hf5 hp5 hk5
        have hn5 := hf5.n; try simp only [hN] at hn5
        have b5 := (hf5.old (h4.n + 1) (by omega) (by omega)).trans b0
        have c5 := (hf5.old h4.n (by omega) (by omega)).trans c0
        have r5 := (hf5.old h.n (by omega) (by omega)).trans q0
        have hf5' : ∀ b', b' < h.n → b' ≠ r → h5.get b' = h.get b' := fun b' hb1 hb2 => by simp (disch := first | omega | (simp only [hN] <;> omega) | fail) only [go_sem, simprocAttr, hf5.old, hfH]
        have hkc5 : KidsR (h.n + 1) (h5.alloc (.cells .own 9 (ndC x kx))) c.kids kc := hkc.keep (Nat.le_refl _) (by simp (disch := first | omega | (simp only [hN] <;> omega) | fail) only [go_sem, simprocAttr]; omega) fun b hb1 hb2 => by simp (disch := first | omega | (simp only [hN] <;> omega) | fail) only [go_sem, simprocAttr, hf5.old]
        have hkx5 : KidsR (h.n + 1) (h5.alloc (.cells .own 9 (ndC x kx))) x.kids kx := hk5.keep (by omega) (by simp (disch := first | omega | (simp only [hN] <;> omega) | fail) only [go_sem, simprocAttr]; omega) fun b hb1 hb2 => by simp (disch := first | omega | (simp only [hN] <;> omega) | fail) only [go_sem, simprocAttr]
        obtain ⟨v6, h6, happ, hg6, hb6, hn6, ho6⟩ := one_app (lo := h.n + 1) (h := h5.alloc (.cells .own 9 (ndC x kx))) (b := h4.n) (ver := 0) (x := c) (n := x) (xv := kc) (kv := kx) (by simp (disch := first | omega | (simp only [hN] <;> omega) | fail) only [go_sem, simprocAttr, c5]) (by simp (disch := first | omega | (simp only [hN] <;> omega) | fail) only [go_sem, simprocAttr]; omega) (by simp (disch := first | omega | (simp only [hN] <;> omega) | fail) only [go_sem, simprocAttr]; omega) hkc5 hkx5
        have hf6 : ∀ b', b' < h5.n → h6.get b' = h5.get b' := fun b' hb1 => by rw [ho6 b' (by simp (disch := first | omega | (simp only [hN] <;> omega) | fail) only [go_sem, simprocAttr]; omega)]; simp (disch := first | omega | (simp only [hN] <;> omega) | fail) only [go_sem, simprocAttr]
        simp only [AHeap.alloc_n] at hn6
        have b6 := (hf6 (h4.n + 1) (by omega)).trans b5
        have r6 := (hf6 h.n (by omega)).trans r5
        have hp6 : PInv h6 r E ts3 lv := hp5.le (by omega) fun b hb => hf6 b (by omega)
        have hf6' : ∀ b', b' < h.n → b' ≠ r → h6.get b' = h.get b' := fun b' hb1 hb2 => by simp (disch := first | omega | (simp only [hN] <;> omega) | fail) only [go_sem, simprocAttr, hf6, hf5']
        have flx := hk5.flat
        clear hf6 ho6 hf5 hf5' hkc5 hkx5 hk5 hp5 hkc hfH hpH c5 c0 r5 q0
        simp only [ndC] at happ
        simp (disch := first | omega | (simp only [hN] <;> omega) | fail) only [go_sem, simprocAttr, flx.1, flx.2, happ, b5, b0, b6, hg6.flat.1, hg6.flat.2]
        clear happ b5 b0
        generalize hH : AHeap.upd h6 _ _ _ = H7
        have hHn7 : H7.n = h6.n := by rw [← hH]; simp (disch := first | omega | (simp only [hN] <;> omega) | fail) only [go_sem, simprocAttr]
        have b7 : H7.get (h4.n + 1) = some ⟨2, .cells .own 0 [.int .i64 21, .int .i64 (P : Int), .str [], .int .i64 0, .int .i64 0, .int .i64 0, .int .i64 0, .int .u64 0, v6]⟩ := by rw [← hH]; simp (disch := first | omega | (simp only [hN] <;> omega) | fail) only [go_sem, simprocAttr]
        have r7 : H7.get h.n = some ⟨0, .cells .own 0 zN⟩ := by rw [← hH]; simp (disch := first | omega | (simp only [hN] <;> omega) | fail) only [go_sem, simprocAttr, r6]
        have hp7 : PInv H7 r E ts3 lv := by rw [← hH]; exact hp6.le (by simp (disch := first | omega | (simp only [hN] <;> omega) | fail) only [go_sem, simprocAttr]; omega) fun b hb => by simp (disch := first | omega | (simp only [hN] <;> omega) | fail) only [go_sem, simprocAttr]
        have hf7 : ∀ b', b' < h.n → b' ≠ r → H7.get b' = h.get b' := fun b' hb1 hb2 => by rw [← hH]; simp (disch := first | omega | (simp only [hN] <;> omega) | fail) only [go_sem, simprocAttr, hf6']
        have hg7 : GKids (h.n + 1) H7 v6 [c, x] := by
          rw [← hH]
          refine hg6.keep (by simp (disch := first | omega | (simp only [hN] <;> omega) | fail) only [go_sem, simprocAttr]; omega) fun b _ _ _ hb1 hb2 hb3 => ?_
          have : b ≠ h4.n + 1 := by rintro rfl; rw [b6] at hb3; cases hb3
          simp (disch := first | omega | (simp only [hN] <;> omega) | fail) only [go_sem, simprocAttr]
        clear hH b6 hp6 hf6' hg6
        refine maybe_tok hp7 ?_
        by_cases ce : isT [[101, 108, 115, 101]] ts3 = true
        · rw [if_pos ce] at hQ ⊢
          intro h8 hf8 hp8
          have hn8 := hf8.n; try simp only [hN] at hn8
          have b8 := (hf8.old (h4.n + 1) (by omega) (by omega)).trans b7
          have r8 := (hf8.old h.n (by omega) (by omega)).trans r7
          have hg8 := hg7.fr hf8 (.inl (by omega))
          have hf8' : ∀ b', b' < h.n → b' ≠ r → h8.get b' = h.get b' := fun b' hb1 hb2 => by simp (disch := first | omega | (simp only [hN] <;> omega) | fail) only [go_sem, simprocAttr, hf8.old, hf7]
          have htl3 := tail_lt (isT_ne ce)
          clear hf8 hf7 hg7 hp7 b7 r7
          simp (disch := first | omega | (simp only [hN] <;> omega) | fail) only [go_sem, simprocAttr, b8]
          have hs4 : ts3.tail.length ≤ 2000 := by omega
          have hm4 : ts3.tail.length < m := by omega
          refine hb hp8 hs4 hm4 ?_
          cases hz : b lv ts3.tail with
          | error e =>
            obtain ⟨e, p⟩ := e
            rw [hz] at hQ
            intro h9 hf9
            have hn9 := hf9.n; try simp only [hN] at hn9
            have b9 := (hf9.old (h4.n + 1) (by omega) (by omega)).trans b8
            simp (disch := first | omega | (simp only [hN] <;> omega) | fail) only [go_sem, simprocAttr, b9, b8]
            exact hQ _ ⟨by first | omega | (simp only [hN]; omega), fun b hb hne => by (try simp only [hN] at hb hne); simp (disch := first | omega | (simp only [hN] <;> omega) | fail) only [go_sem, simprocAttr, hf9.old, hf8']⟩
          | ok y =>
            obtain ⟨z, ts4⟩ := y
            rw [hz] at hQ
            simp only at hQ
            intro h9 kz hf9 hp9 hk9
            have hn9 := hf9.n; try simp only [hN] at hn9
            have b9 := (hf9.old (h4.n + 1) (by omega) (by omega)).trans b8
            have r9 := (hf9.old h.n (by omega) (by omega)).trans r8
            have hg9 : GKids (h.n + 1) (h9.alloc (.cells .own 9 (ndC z kz))) v6 [c, x] := (hg8.fr hf9 (.inl (by omega))).fr (Fr.alloc (Fr.refl h9.n h9) _) (.inr (Nat.le_refl _))
            obtain ⟨v10, h10, happ, hg10, hb10, hn10, ho10⟩ := hg9.append (by simp (disch := first | omega | (simp only [hN] <;> omega) | fail) only [go_sem, simprocAttr]; omega) (show 2 < 2 ^ 36 by decide) (hk9.keep (lo' := h8.n) (Nat.le_refl _) (by simp (disch := first | omega | (simp only [hN] <;> omega) | fail) only [go_sem, simprocAttr]; omega) fun b hb1 hb2 => by simp (disch := first | omega | (simp only [hN] <;> omega) | fail) only [go_sem, simprocAttr]) (by omega) (fun b hb => (hg8.blk hb).2)
            have hv6 : blkV v6 = some (h5.n + 1) := hb6
            have hf10 : ∀ b', b' < h5.n → h10.get b' = h9.get b' := fun b' hb1 => by rw [ho10 b' (by simp (disch := first | omega | (simp only [hN] <;> omega) | fail) only [go_sem, simprocAttr]; omega) (by rw [hv6]; simp only [ne_eq, Option.some.injEq]; omega)]; simp (disch := first | omega | (simp only [hN] <;> omega) | fail) only [go_sem, simprocAttr]
            simp only [AHeap.alloc_n] at hn10
            have b10 := (hf10 (h4.n + 1) (by omega)).trans b9
            have r10 := (hf10 h.n (by omega)).trans r9
            have hp10 : PInv h10 r E ts4 lv := hp9.le (by omega) fun b hb => hf10 b (by omega)
            have hf10' : ∀ b', b' < h.n → b' ≠ r → h10.get b' = h.get b' := fun b' hb1 hb2 => by simp (disch := first | omega | (simp only [hN] <;> omega) | fail) only [go_sem, simprocAttr, hf10, hf9.old, hf8']
            have flz := hk9.flat
            clear hf10 ho10 hf9 hf8' hk9 hp9 hp8 hg9 hg8 r8 r9
            simp only [ndC] at happ
            simp (disch := first | omega | (simp only [hN] <;> omega) | fail) only [go_sem, simprocAttr, flz.1, flz.2, happ, b9, b8, b10, hg10.flat.1, hg10.flat.2, r10, zN]
            exact hQ _ _ ⟨by first | omega | (simp only [hN]; omega), fun b hb hne => by (try simp only [hN] at hb hne); simp (disch := first | omega | (simp only [hN] <;> omega) | fail) only [go_sem, simprocAttr, hf10']⟩ (hp10.le (by simp (disch := first | omega | (simp only [hN] <;> omega) | fail) only [go_sem, simprocAttr]; omega) fun b hb => by simp (disch := first | omega | (simp only [hN] <;> omega) | fail) only [go_sem, simprocAttr]) ((hg10.kids (show 3 < 2 ^ 61 by decide)).keep9 (by omega) (by simp (disch := first | omega | (simp only [hN] <;> omega) | fail) only [go_sem, simprocAttr]; omega) fun b _ _ _ hb1 hb2 hb3 => by
              have : b ≠ h4.n + 1 := by rintro rfl; rw [b10] at hb3; cases hb3
              simp (disch := first | omega | (simp only [hN] <;> omega) | fail) only [go_sem, simprocAttr])
        · rw [if_neg ce] at hQ ⊢
          intro h8 hf8
          have hn8 := hf8.n; try simp only [hN] at hn8
          have b8 := (hf8.old (h4.n + 1) (by omega) (by omega)).trans b7
          have r8 := (hf8.old h.n (by omega) (by omega)).trans r7
          have hg8 := hg7.fr hf8 (.inr (by omega))
          have hp8 := hp7.fr hf8
          simp (disch := first | omega | (simp only [hN] <;> omega) | fail) only [go_sem, simprocAttr, b8, r8, zN, hg8.flat.1, hg8.flat.2]
          exact hQ _ _ ⟨by first | omega | (simp only [hN]; omega), fun b hb hne => by (try simp only [hN] at hb hne); simp (disch := first | omega | (simp only [hN] <;> omega) | fail) only [go_sem, simprocAttr, hf8.old, hf7]⟩ (hp8.le (by simp (disch := first | omega | (simp only [hN] <;> omega) | fail) only [go_sem, simprocAttr]; omega) fun b hb => by simp (disch := first | omega | (simp only [hN] <;> omega) | fail) only [go_sem, simprocAttr]) ((hg8.kids (show 2 < 2 ^ 61 by decide)).keep9 (by omega) (by simp (disch := first | omega | (simp only [hN] <;> omega) | fail) only [go_sem, simprocAttr]; omega) fun b _ _ _ hb1 hb2 hb3 => by simp (disch := first | omega | (simp only [hN] <;> omega) | fail) only [go_sem, simprocAttr])
  rw [if_neg ci] at hQ ⊢
  intro h2 hf2
  have hn2 := hf2.n; try simp only [hN] at hn2
  have hp2 := hp1.fr hf2
  have q2 := (hf2.old h.n (by omega) (by omega)).trans q0
  have hf2' : ∀ b', b' < h.n → h2.get b' = h.get b' := fun b' hb' => by simp (disch := first | omega | (simp only [hN] <;> omega) | fail) only [go_sem, simprocAttr, hf2.old, hf]
  clear hf hf2 hp1 q0 ci
  simp (disch := first | omega | (simp only [hN] <;> omega) | fail) only [go_sem, simprocAttr]
  have q0 := q2
  have hf := hf2'
  have hp1 := hp2
  refine maybe_tok hp2 ?_
  by_cases ci : isT [[119, 104, 105, 108, 101]] ts = true
  · rw [if_pos ci] at hQ ⊢
    unfold whileP at hQ
    intro h3 hf3 hp3
    have hn3 := hf3.n; try simp only [hN] at hn3
    have r0 := (hf3.old h.n (by omega) (by omega)).trans q0
    have hfr : ∀ b', b' < h.n → b' ≠ r → h3.get b' = h.get b' := fun b' hb1 hb2 => by simp (disch := first | omega | (simp only [hN] <;> omega) | fail) only [go_sem, simprocAttr, hf3.old, hf]
    have htl := tail_lt (isT_ne ci)
    clear hf3 hf hp1 q0 ci hp
    generalize (hdT E ts).pos = P at *
    generalize ts.tail = ts1 at *
    simp (disch := first | omega | (simp only [hN] <;> omega) | fail) only [go_sem, simprocAttr]
    have hfe := exprT_fine (E := E) lv ts1
    refine exprT_tok hp3 hfe.ne ?_
    cases hx : exprT E lv ts1 with
    | error e =>
      obtain ⟨e, p⟩ := e
      rw [hx] at hQ
      intro h4 hf4
      have hn4 := hf4.n; try simp only [hN] at hn4
      simp (disch := first | omega | (simp only [hN] <;> omega) | fail) only [go_sem, simprocAttr]
      exact hQ _ ⟨by first | omega | (simp only [hN]; omega), fun b hb hne => by (try simp only [hN] at hb hne); simp (disch := first | omega | (simp only [hN] <;> omega) | fail) only [go_sem, simprocAttr, hf4.old, hfr]⟩
    | ok y =>
      obtain ⟨c, ts2⟩ := y
      rw [hx] at hQ hfe
      simp only [FE] at hfe
      simp only at hQ
      intro h4 kc hf4 hp4 hk4
      have hn4 := hf4.n; try simp only [hN] at hn4
      have r4 := (hf4.old h.n (by omega) (by omega)).trans r0
      have hf4' : ∀ b', b' < h.n → b' ≠ r → h4.get b' = h.get b' := fun b' hb1 hb2 => by simp (disch := first | omega | (simp only [hN] <;> omega) | fail) only [go_sem, simprocAttr, hf4.old, hfr]
      clear hf4 hfr r0 hp3
      simp (disch := first | omega | (simp only [hN] <;> omega) | fail) only [go_sem, simprocAttr, hk4.flat.1, hk4.flat.2]
      generalize hH : AHeap.upd (AHeap.alloc (AHeap.alloc _ _) _) _ _ _ = H
      have hHn : H.n = h4.n + 2 := by rw [← hH]; simp (disch := first | omega | (simp only [hN] <;> omega) | fail) only [go_sem, simprocAttr]
      have c0 : H.get h4.n = some ⟨0, .cells .own 9 (ndC c kc)⟩ := by rw [← hH]; simp (disch := first | omega | (simp only [hN] <;> omega) | fail) only [go_sem, simprocAttr, ndC]
      have b0 : H.get (h4.n + 1) = some ⟨1, .cells .own 0 [.int .i64 22, .int .i64 (P : Int), .str [], .int .i64 0, .int .i64 0, .int .i64 0, .int .i64 0, .int .u64 0, .slice h4.n 0 1 1 true]⟩ := by rw [← hH]; simp (disch := first | omega | (simp only [hN] <;> omega) | fail) only [go_sem, simprocAttr]
      have q0 : H.get h.n = some ⟨0, .cells .own 0 zN⟩ := by rw [← hH]; simp (disch := first | omega | (simp only [hN] <;> omega) | fail) only [go_sem, simprocAttr, r4, zN]
      have hpH : PInv H r E ts2 lv := by rw [← hH]; exact hp4.le (by simp (disch := first | omega | (simp only [hN] <;> omega) | fail) only [go_sem, simprocAttr]; omega) fun b hb => by simp (disch := first | omega | (simp only [hN] <;> omega) | fail) only [go_sem, simprocAttr]
      have hfH : ∀ b', b' < h.n → b' ≠ r → H.get b' = h.get b' := fun b' hb1 hb2 => by rw [← hH]; simp (disch := first | omega | (simp only [hN] <;> omega) | fail) only [go_sem, simprocAttr, hf4']
      have hkc : KidsR (h.n + 1) H c.kids kc := by rw [← hH]; exact hk4.keep (by omega) (by simp (disch := first | omega | (simp only [hN] <;> omega) | fail) only [go_sem, simprocAttr]; omega) fun b hb1 hb2 => by simp (disch := first | omega | (simp only [hN] <;> omega) | fail) only [go_sem, simprocAttr]
      clear hH hf4' hk4 hp4 r4
      have hs2 : ts2.length ≤ 2000 := by omega
      have hm2 : ts2.length < m := by omega
      refine hb hpH hs2 hm2 ?_
      have hfb2 := hfb lv ts2 hm2
      cases hy : b lv ts2 with
      | error e =>
        obtain ⟨e, p⟩ := e
        rw [hy] at hQ
        intro h5 hf5
        have hn5 := hf5.n; try simp only [hN] at hn5
        have b5 := (hf5.old (h4.n + 1) (by omega) (by omega)).trans b0
        simp (disch := first | omega | (simp only [hN] <;> omega) | fail) only [go_sem, simprocAttr, b5, b0]
        exact hQ _ ⟨by first | omega | (simp only [hN]; omega), fun b hb hne => by (try simp only [hN] at hb hne); simp (disch := first | omega | (simp only [hN] <;> omega) | fail) only [go_sem, simprocAttr, hf5.old, hfH]⟩
      | ok y =>
        obtain ⟨x, ts3⟩ := y
        rw [hy] at hQ hfb2
        simp only [FE] at hfb2
        simp only at hQ
        intro h5 kx hf5 hp5 hk5
        have hn5 := hf5.n; try simp only [hN] at hn5
        have b5 := (hf5.old (h4.n + 1) (by omega) (by omega)).trans b0
        have c5 := (hf5.old h4.n (by omega) (by omega)).trans c0
        have r5 := (hf5.old h.n (by omega) (by omega)).trans q0
        have hf5' : ∀ b', b' < h.n → b' ≠ r → h5.get b' = h.get b' := fun b' hb1 hb2 => by simp (disch := first | omega | (simp only [hN] <;> omega) | fail) only [go_sem, simprocAttr, hf5.old, hfH]
        have hkc5 : KidsR (h.n + 1) (h5.alloc (.cells .own 9 (ndC x kx))) c.kids kc := hkc.keep (Nat.le_refl _) (by simp (disch := first | omega | (simp only [hN] <;> omega) | fail) only [go_sem, simprocAttr]; omega) fun b hb1 hb2 => by simp (disch := first | omega | (simp only [hN] <;> omega) | fail) only [go_sem, simprocAttr, hf5.old]
        have hkx5 : KidsR (h.n + 1) (h5.alloc (.cells .own 9 (ndC x kx))) x.kids kx := hk5.keep (by omega) (by simp (disch := first | omega | (simp only [hN] <;> omega) | fail) only [go_sem, simprocAttr]; omega) fun b hb1 hb2 => by simp (disch := first | omega | (simp only [hN] <;> omega) | fail) only [go_sem, simprocAttr]
        obtain ⟨v6, h6, happ, hg6, hb6, hn6, ho6⟩ := one_app (lo := h.n + 1) (h := h5.alloc (.cells .own 9 (ndC x kx))) (b := h4.n) (ver := 0) (x := c) (n := x) (xv := kc) (kv := kx) (by simp (disch := first | omega | (simp only [hN] <;> omega) | fail) only [go_sem, simprocAttr, c5]) (by simp (disch := first | omega | (simp only [hN] <;> omega) | fail) only [go_sem, simprocAttr]; omega) (by simp (disch := first | omega | (simp only [hN] <;> omega) | fail) only [go_sem, simprocAttr]; omega) hkc5 hkx5
        have hf6 : ∀ b', b' < h5.n → h6.get b' = h5.get b' := fun b' hb1 => by rw [ho6 b' (by simp (disch := first | omega | (simp only [hN] <;> omega) | fail) only [go_sem, simprocAttr]; omega)]; simp (disch := first | omega | (simp only [hN] <;> omega) | fail) only [go_sem, simprocAttr]
        simp only [AHeap.alloc_n] at hn6
        have b6 := (hf6 (h4.n + 1) (by omega)).trans b5
        have r6 := (hf6 h.n (by omega)).trans r5
        have hp6 : PInv h6 r E ts3 lv := hp5.le (by omega) fun b hb => hf6 b (by omega)
        have hf6' : ∀ b', b' < h.n → b' ≠ r → h6.get b' = h.get b' := fun b' hb1 hb2 => by simp (disch := first | omega | (simp only [hN] <;> omega) | fail) only [go_sem, simprocAttr, hf6, hf5']
        have flx := hk5.flat
        clear hf6 ho6 hf5 hf5' hkc5 hkx5 hk5 hp5 hkc hfH hpH c5 c0 r5 q0
        simp only [ndC] at happ
        simp (disch := first | omega | (simp only [hN] <;> omega) | fail) only [go_sem, simprocAttr, flx.1, flx.2, happ, b5, b0, b6, hg6.flat.1, hg6.flat.2]
        clear happ b5 b0
        generalize hH : AHeap.upd h6 _ _ _ = H7
        have hHn7 : H7.n = h6.n := by rw [← hH]; simp (disch := first | omega | (simp only [hN] <;> omega) | fail) only [go_sem, simprocAttr]
        have b7 : H7.get (h4.n + 1) = some ⟨2, .cells .own 0 [.int .i64 22, .int .i64 (P : Int), .str [], .int .i64 0, .int .i64 0, .int .i64 0, .int .i64 0, .int .u64 0, v6]⟩ := by rw [← hH]; simp (disch := first | omega | (simp only [hN] <;> omega) | fail) only [go_sem, simprocAttr]
        have r7 : H7.get h.n = some ⟨0, .cells .own 0 zN⟩ := by rw [← hH]; simp (disch := first | omega | (simp only [hN] <;> omega) | fail) only [go_sem, simprocAttr, r6]
        have hp7 : PInv H7 r E ts3 lv := by rw [← hH]; exact hp6.le (by simp (disch := first | omega | (simp only [hN] <;> omega) | fail) only [go_sem, simprocAttr]; omega) fun b hb => by simp (disch := first | omega | (simp only [hN] <;> omega) | fail) only [go_sem, simprocAttr]
        have hf7 : ∀ b', b' < h.n → b' ≠ r → H7.get b' = h.get b' := fun b' hb1 hb2 => by rw [← hH]; simp (disch := first | omega | (simp only [hN] <;> omega) | fail) only [go_sem, simprocAttr, hf6']
        have hg7 : GKids (h.n + 1) H7 v6 [c, x] := by
          rw [← hH]
          refine hg6.keep (by simp (disch := first | omega | (simp only [hN] <;> omega) | fail) only [go_sem, simprocAttr]; omega) fun b _ _ _ hb1 hb2 hb3 => ?_
          have : b ≠ h4.n + 1 := by rintro rfl; rw [b6] at hb3; cases hb3
          simp (disch := first | omega | (simp only [hN] <;> omega) | fail) only [go_sem, simprocAttr]
        clear hH b6 hp6 hf6' hg6
        simp (disch := first | omega | (simp only [hN] <;> omega) | fail) only [go_sem, simprocAttr, b7, r7, r6, zN, hg7.flat.1, hg7.flat.2]
        exact hQ _ _ ⟨by first | omega | (simp only [hN]; omega), fun b hb hne => by (try simp only [hN] at hb hne); simp (disch := first | omega | (simp only [hN] <;> omega) | fail) only [go_sem, simprocAttr, hf7]⟩ (hp7.le (by simp (disch := first | omega | (simp only [hN] <;> omega) | fail) only [go_sem, simprocAttr]; omega) fun b hb => by simp (disch := first | omega | (simp only [hN] <;> omega) | fail) only [go_sem, simprocAttr]) ((hg7.kids (show 2 < 2 ^ 61 by decide)).keep9 (by omega) (by simp (disch := first | omega | (simp only [hN] <;> omega) | fail) only [go_sem, simprocAttr]; omega) fun b _ _ _ hb1 hb2 hb3 => by simp (disch := first | omega | (simp only [hN] <;> omega) | fail) only [go_sem, simprocAttr])
  rw [if_neg ci] at hQ ⊢
  intro h3 hf3
  have hn3 := hf3.n; try simp only [hN] at hn3
  have hp3 := hp2.fr hf3
  have q3 := (hf3.old h.n (by omega) (by omega)).trans q0
  have hf3' : ∀ b', b' < h.n → h3.get b' = h.get b' := fun b' hb' => by simp (disch := first | omega | (simp only [hN] <;> omega) | fail) only [go_sem, simprocAttr, hf3.old, hf]
  clear hf hf3 hp1 hp2 hf2' q0 q2 ci
  simp (disch := first | omega | (simp only [hN] <;> omega) | fail) only [go_sem, simprocAttr]
  unfold semiP at hQ
  refine simple_tok hp3 hsm ?_
  cases hx : simpleP E lv ts with
  | error e =>
    obtain ⟨e, p⟩ := e
    rw [hx] at hQ
    intro h4 hf4
    have hn4 := hf4.n; try simp only [hN] at hn4
    simp (disch := first | omega | (simp only [hN] <;> omega) | fail) only [go_sem, simprocAttr]
    exact hQ _ ⟨by first | omega | (simp only [hN]; omega), fun b hb hne => by (try simp only [hN] at hb hne); simp (disch := first | omega | (simp only [hN] <;> omega) | fail) only [go_sem, simprocAttr, hf4.old, hf3']⟩
  | ok y =>
    obtain ⟨n, ts1⟩ := y
    rw [hx] at hQ
    simp only [mustP] at hQ
    intro h4 kv hf4 hp4 hk4
    have hn4 := hf4.n; try simp only [hN] at hn4
    have q4 := (hf4.old h.n (by omega) (by omega)).trans q3
    have hf4' : ∀ b', b' < h.n → b' ≠ r → h4.get b' = h.get b' := fun b' hb1 hb2 => by simp (disch := first | omega | (simp only [hN] <;> omega) | fail) only [go_sem, simprocAttr, hf4.old, hf3']
    clear hf4 hf3' q3
    simp (disch := first | omega | (simp only [hN] <;> omega) | fail) only [go_sem, simprocAttr, hk4.flat.1, hk4.flat.2]
    refine must_tok (hp4.le (by simp (disch := first | omega | (simp only [hN] <;> omega) | fail) only [go_sem, simprocAttr]; omega) fun b hb => by simp (disch := first | omega | (simp only [hN] <;> omega) | fail) only [go_sem, simprocAttr]) ?_
    by_cases cm : isT [[59]] ts1 = true
    · rw [if_pos cm] at hQ ⊢
      simp only at hQ
      intro h5 hf5 hp5
      have hn5 := hf5.n; try simp only [hN] at hn5
      have b5 : h5.get h4.n = some ⟨1, .cells .own 0 (ndC n kv)⟩ := by simp (disch := first | omega | (simp only [hN] <;> omega) | fail) only [go_sem, simprocAttr, hf5.old, ndC]
      have q5 : h5.get h.n = some ⟨0, .cells .own 0 zN⟩ := by simp (disch := first | omega | (simp only [hN] <;> omega) | fail) only [go_sem, simprocAttr, hf5.old, q4, zN]
      have hk5 : KidsR h.n h5 n.kids kv := hk4.keep (by omega) (by omega) fun b hb1 hb2 => by simp (disch := first | omega | (simp only [hN] <;> omega) | fail) only [go_sem, simprocAttr, hf5.old]
      have hf5' : ∀ b', b' < h.n → b' ≠ r → h5.get b' = h.get b' := fun b' hb1 hb2 => by simp (disch := first | omega | (simp only [hN] <;> omega) | fail) only [go_sem, simprocAttr, hf5.old, hf4']
      clear hf5 hf4' hk4
      simp (disch := first | omega | (simp only [hN] <;> omega) | fail) only [go_sem, simprocAttr, b5, q5, zN, ndC, hk5.flat.1, hk5.flat.2]
      exact hQ _ kv ⟨by first | omega | (simp only [hN]; omega), fun b hb hne => by (try simp only [hN] at hb hne); simp (disch := first | omega | (simp only [hN] <;> omega) | fail) only [go_sem, simprocAttr, hf5']⟩ (hp5.le (by simp (disch := first | omega | (simp only [hN] <;> omega) | fail) only [go_sem, simprocAttr]; omega) fun b hb => by simp (disch := first | omega | (simp only [hN] <;> omega) | fail) only [go_sem, simprocAttr]) (hk5.keep9 (Nat.le_refl _) (by simp (disch := first | omega | (simp only [hN] <;> omega) | fail) only [go_sem, simprocAttr]; omega) fun b _ _ _ hb1 hb2 hb3 => by
        have : b ≠ h.n := by rintro rfl; rw [q5] at hb3; cases hb3
        simp (disch := first | omega | (simp only [hN] <;> omega) | fail) only [go_sem, simprocAttr])
    · rw [if_neg cm] at hQ ⊢
      intro h5 hf5
      have hn5 := hf5.n; try simp only [hN] at hn5
      simp (disch := first | omega | (simp only [hN] <;> omega) | fail) only [go_sem, simprocAttr]
      exact hQ _ ⟨by first | omega | (simp only [hN]; omega), fun b hb hne => by (try simp only [hN] at hb hne); simp (disch := first | omega | (simp only [hN] <;> omega) | fail) only [go_sem, simprocAttr, hf5.old, hf4']⟩
theorem blockP_tok {E : Nat} : ∀ f, PSpecB f 84 E (blockP E f)
  | 0 => fun _ _ h _ => absurd h (Nat.not_lt_zero _)
  | f + 1 => fun h1 h2 h3 h4 => by
    rw [blockP] at h4
    exact block_tok (stmt_tok (blockP_tok f) (blockP_fine f)) (stmtP_fine (blockP_fine f)) h1 h2 h3 h4
end Go.Ev
/- The tree's reader: parameters. -/
namespace Go.Ev
open Go
set_option maxRecDepth 100000
set_option maxHeartbeats 4000000

theorem lay_end {css zs new : List AV} {o : Nat} (hl : css.length = o) (h : new.length = zs.length) : lay (css ++ zs) o new = some (css ++ new) := by
  subst hl
  simp [lay, ble_nat, h]
/-- A zero node more, which then becomes a node. -/
theorem GKids.zapp {lo m : Nat} {h : AHeap} {v kv : AV} {ns : List Nd} {n : Nd} (g : GKids lo h v ns) (hlo : lo ≤ h.n) (hs : ns.length < 2 ^ 36) (hk : KidsR m h n.kids kv) (hm : lo ≤ m) (hv : ∀ b, blkV v = some b → b < m) :
    ∃ h' css, appendA h 9 96 v 1 zN = some (.slice h.n 0 (ns.length + 1) (ns.length + 1) false, h') ∧ h'.n = h.n + 1 ∧ h'.get h.n = some ⟨0, .cells .own 9 (css ++ zN)⟩ ∧ lay (css ++ zN) (ns.length * 9) (ndC n kv) = some (css ++ ndC n kv) ∧ GKids lo (h'.upd h.n 1 (.cells .own 9 (css ++ ndC n kv))) (.slice h.n 0 (ns.length + 1) (ns.length + 1) false) (ns ++ [n]) ∧ ∀ b, b < h.n → blkV v ≠ some b → h'.get b = h.get b := by
  obtain ⟨css, hsl, hr⟩ := g
  obtain ⟨h', h1, h2, h3, h4, h5⟩ := hsl.app2 (bytes := 96) (new := zN) hlo rfl rfl (by simp only [room]; omega) (by simp only [room]; omega)
  refine ⟨h', css, h1, h3, h4, lay_end hsl.1 rfl, ⟨css ++ ndC n kv, ?_, ?_⟩, h5⟩
  · rw [List.length_append]
    refine ⟨by rw [List.length_append, hsl.1]; exact (Nat.succ_mul _ 9).symm, .inr ⟨Nat.succ_pos _, h.n, 1, rfl, hlo, by rw [AHeap.upd_n]; omega, by rw [AHeap.get_upd, if_pos rfl]⟩⟩
  · have hu : ∀ b, b < h.n → (h'.upd h.n 1 (.cells .own 9 (css ++ ndC n kv))).get b = h'.get b := fun b hb => by rw [AHeap.get_upd, if_neg (by omega)]
    refine RowsS.app (hr.keep9 (fun b hb hl => ⟨hb.1, by simp [blkV]; omega⟩) (by rw [AHeap.upd_n]; omega) fun b _ _ _ hb hl _ => (hu b hl).trans (h5 b hl hb.2)) (KidsS.keep9 (fun b hb hl => ⟨Nat.le_trans hm hb, by simp [blkV]; omega⟩) (by rw [AHeap.upd_n]; omega) (fun b _ _ _ hb hl _ => (hu b hl).trans (h5 b hl ?_)) hk)
    intro e
    have := hv b e
    omega
/-- Blocks but two as they were. -/
def Fr2 (r b : Nat) (h h' : AHeap) : Prop := h.n ≤ h'.n ∧ ∀ x, x < h.n → x ≠ r → x ≠ b → h'.get x = h.get x
theorem params_tok {E r lv b ver : Nat} {k p : Int} {nm : Bs} {ts : List Tok} {h : AHeap} (hp : PInv h r E ts lv) (hsm : ts.length ≤ 2000) (hrb : r < b) (hbn : b < h.n) (hb : h.get b = some ⟨ver, .cells .own 0 [.int .i64 k, .int .i64 p, .str nm, .int .i64 0, .int .i64 0, .int .i64 0, .int .i64 0, .int .u64 0, .nilSlice]⟩) {Q : QR}
    (hQ : match paramsP E ts with
      | .error (e, p) => ∀ h', Fr2 r b h h' → Q (treeStop e p) h'
      | .ok (ns, ts') => ∀ h' v ver', Fr2 r b h h' → PInv h' r E ts' lv → h'.get b = some ⟨ver', .cells .own 0 [.int .i64 k, .int .i64 p, .str nm, .int .i64 0, .int .i64 (ns.length : Int), .int .i64 0, .int .i64 0, .int .u64 0, v]⟩ → GKids h.n h' v ns → Q (.ret undefA) h') : WF F 83 [.ptr r 0, .ptr b 0] h Q := by
  refine WF.code F83 rfl ?_
  have hlt := hp.hi
  simp (disch := first | omega | (simp only [hN] <;> omega) | fail) only [go_sem, simprocAttr]
  unfold paramsP mustP at hQ
  refine must_tok hp ?_
  by_cases c1 : isT [[40]] ts = true
  · rw [if_pos c1] at hQ ⊢
    simp only at hQ
    intro h1 hf1 hp1
    have hn1 := hf1.n; try simp only [hN] at hn1
    have hlt1 := hp1.hi
    have htl := tail_lt (isT_ne c1)
    generalize ts.tail = ts1 at *
    simp (disch := first | omega | (simp only [hN] <;> omega) | fail) only [go_sem, simprocAttr]
    refine is_tok (ws := [[41]]) (md := .own) (ver := 0) (E := E) (ts := ts1) (lv := lv) (hp1.fr ⟨by first | omega | (simp only [hN]; omega), fun b hb hne => by (try simp only [hN] at hb hne); simp (disch := first | omega | (simp only [hN] <;> omega) | fail) only [go_sem, simprocAttr]⟩) (by (first | (simp (disch := first | omega | (simp only [hN] <;> omega) | fail) only [go_sem, simprocAttr, List.map]; done) | (simp (disch := first | omega | (simp only [hN] <;> omega) | fail) only [go_sem, simprocAttr, List.map]; rfl))) (by simp (disch := first | omega | (simp only [hN] <;> omega) | fail) only [go_sem, simprocAttr]; omega) (show 1 < 2 ^ 62 by decide) ?_
    intro h2 hf2
    have hn2 := hf2.n; try simp only [hN] at hn2
    have hp2 : PInv h2 r E ts1 lv := hp1.fr ⟨by first | omega | (simp only [hN]; omega), fun b hb hne => by (try simp only [hN] at hb hne); simp (disch := first | omega | (simp only [hN] <;> omega) | fail) only [go_sem, simprocAttr, hf2.old]⟩
    have hfo : ∀ b', b' < h.n → b' ≠ r → h2.get b' = h.get b' := fun b' hb1 hb2 => by simp (disch := first | omega | (simp only [hN] <;> omega) | fail) only [go_sem, simprocAttr, hf2.old, hf1.old]
    have b2 := (hfo b hbn (by omega)).trans hb
    have hR : ∃ R, commaP E (paramP E) ts1 = R := ⟨_, rfl⟩
    obtain ⟨R, hR⟩ := hR
    rw [hR] at hQ
    have hz : R ≠ .error (0, 0) := by
      rw [← hR]
      exact (commaP_fine (E := E) (x := paramP E) (fun ts => paramP_fine ts) ts1).ne
    obtain ⟨f, bm, hfl, hbm, hfm⟩ : ∃ f bm, f ≤ 2001 ∧ isT [[41]] ts1 = !bm ∧ ((bm = true ∧ commaL E (paramP E) f [] ts1 = R) ∨ (bm = false ∧ R = .ok ([], ts1))) := by
      unfold commaP at hR
      cases hi : isT [[41]] ts1 with
      | true => rw [if_pos hi] at hR; exact ⟨0, false, by omega, rfl, .inr ⟨rfl, hR.symm⟩⟩
      | false => rw [if_neg (by rw [hi]; decide)] at hR; exact ⟨_, true, by omega, rfl, .inl ⟨rfl, hR⟩⟩
    rw [hbm]
    simp (disch := first | omega | (simp only [hN] <;> omega) | fail) only [go_sem, simprocAttr, Bool.not_not]
    have hn0 : h.n ≤ h2.n := by omega
    have hfo2 : Fr2 r b h h2 := ⟨hn0, fun x h1 h2 _ => hfo x h1 h2⟩
    clear hf2 hp1 hbm hR hn1 hf1 hfo
    refine wp_loopx 0 (fun g a h' => ∃ c v ns ts2 v2, GKids h.n h' v ns ∧ PInv h' r E ts2 lv ∧ Fr2 r b h h' ∧ h'.get b = some ⟨v2, .cells .own 0 [.int .i64 k, .int .i64 p, .str nm, .int .i64 0, .int .i64 (ns.length : Int), .int .i64 0, .int .i64 0, .int .u64 0, v]⟩ ∧ ns.length + g ≤ 2001 ∧ ((c = true ∧ commaL E (paramP E) g ns ts2 = R) ∨ (c = false ∧ R = .ok (ns, ts2))) ∧ a.tm.get 0 = some (.ptr r 0) ∧ a.tm.get 1 = some (.ptr b 0) ∧ a.tm.get 4 = some (.bool c) ∧ a.df = [])
      (fun a h' => ∃ v ns ts2 v2, GKids h.n h' v ns ∧ PInv h' r E ts2 lv ∧ Fr2 r b h h' ∧ h'.get b = some ⟨v2, .cells .own 0 [.int .i64 k, .int .i64 p, .str nm, .int .i64 0, .int .i64 (ns.length : Int), .int .i64 0, .int .i64 0, .int .u64 0, v]⟩ ∧ ns.length ≤ 2001 ∧ R = .ok (ns, ts2) ∧ a.tm.get 0 = some (.ptr r 0) ∧ a.tm.get 1 = some (.ptr b 0) ∧ a.df = []) ?_ ?_ f ?_
    · rintro g ⟨t, df⟩ h3 ⟨c, v, ns, ts2, v2, hg, hp3, hfo3, b3, hlen, hc, k0, k1, k4, hdf⟩
      simp only at k0 k1 k4 hdf
      subst hdf
      have hlt3 := hp3.hi
      obtain ⟨hn3, hf3⟩ := hfo3
      rcases hc with ⟨rfl, hcl⟩ | ⟨rfl, hcl⟩
      · cases g with
        | zero => exact absurd hcl.symm hz
        | succ g =>
          rw [commaL] at hcl
          unfold paramP takeP at hcl
          simp (disch := first | omega | (simp only [hN] <;> omega) | fail) only [go_sem, simprocAttr, k0, k1, k4]
          refine take_tok (k := 1) hp3 (by decide) ?_
          by_cases hk : (hdT E ts2).kind = 1
          · rw [if_pos hk] at hcl ⊢
            simp only at hcl
            intro h4 hf4 hp4
            have hn4 := hf4.n; try simp only [hN] at hn4
            have b4 := (hf4.old b (by omega) (by omega)).trans b3
            have hg4 := hg.fr hf4 (.inl hlt)
            have hf4' : ∀ x, x < h.n → x ≠ r → x ≠ b → h4.get x = h.get x := fun x h1 h2 h3 => by simp (disch := first | omega | (simp only [hN] <;> omega) | fail) only [go_sem, simprocAttr, hf4.old, hf3]
            clear hf4 hf3 b3 hg hp3
            generalize ts2.tail = ts3 at *
            have d1 : decide (b = h4.n + 1) = false := decide_eq_false (by omega)
            have d2 : decide (h4.n = h4.n + 1) = false := decide_eq_false (by omega)
            simp (disch := first | omega | (simp only [hN] <;> omega) | fail) only [go_sem, simprocAttr, tokAV, k0, k1, k4, b4, d1, d2]
            generalize hH : AHeap.alloc (AHeap.upd (AHeap.alloc _ _) _ _ _) _ = H
            have hHn : H.n = h4.n + 2 := by rw [← hH]; simp (disch := first | omega | (simp only [hN] <;> omega) | fail) only [go_sem, simprocAttr]
            have t0 : H.get h4.n = some ⟨1, .cells .own 0 [.int .i64 ((hdT E ts2).kind : Int), .str (hdT E ts2).text, .int .i64 ((hdT E ts2).n : Int), .int .u64 ((hdT E ts2).bits : Int), .int .i64 ((hdT E ts2).pos : Int)]⟩ := by rw [← hH]; simp (disch := first | omega | (simp only [hN] <;> omega) | fail) only [go_sem, simprocAttr]
            have z0 : H.get (h4.n + 1) = some ⟨0, .cells .own 9 zN⟩ := by rw [← hH]; simp (disch := first | omega | (simp only [hN] <;> omega) | fail) only [go_sem, simprocAttr, zN]
            have b5 : H.get b = some ⟨v2, .cells .own 0 [.int .i64 k, .int .i64 p, .str nm, .int .i64 0, .int .i64 (ns.length : Int), .int .i64 0, .int .i64 0, .int .u64 0, v]⟩ := by rw [← hH]; simp (disch := first | omega | (simp only [hN] <;> omega) | fail) only [go_sem, simprocAttr, b4]
            have hpH : PInv H r E ts3 lv := by rw [← hH]; exact hp4.le (by simp (disch := first | omega | (simp only [hN] <;> omega) | fail) only [go_sem, simprocAttr]; omega) fun b hb => by simp (disch := first | omega | (simp only [hN] <;> omega) | fail) only [go_sem, simprocAttr]
            have hfH : ∀ x, x < h.n → x ≠ r → x ≠ b → H.get x = h.get x := fun x h1 h2 h3 => by rw [← hH]; simp (disch := first | omega | (simp only [hN] <;> omega) | fail) only [go_sem, simprocAttr, hf4']
            have hgH : GKids h.n H v ns := by rw [← hH]; exact hg4.keep (by simp (disch := first | omega | (simp only [hN] <;> omega) | fail) only [go_sem, simprocAttr]; omega) fun b _ _ _ hb1 hb2 hb3 => by simp (disch := first | omega | (simp only [hN] <;> omega) | fail) only [go_sem, simprocAttr]
            have hlt4 := hp4.hi
            clear hH hf4' hg4 hp4
            generalize (hdT E ts2).pos = P at *
            generalize (hdT E ts2).text = T at *
            generalize (hdT E ts2).kind = K at *
            generalize (hdT E ts2).n = KN at *
            generalize (hdT E ts2).bits = KB at *
            refine typ_tok hpH ?_
            cases hy : typP E ts3 with
            | error e =>
              obtain ⟨e, p⟩ := e
              rw [hy] at hcl
              simp only at hcl
              rw [← hcl] at hQ
              intro h5 hf5
              have hn5 := hf5.n; try simp only [hN] at hn5
              have b6 := (hf5.old b (by omega) (by omega)).trans b5
              have t6 := (hf5.old h4.n (by omega) (by omega)).trans t0
              have z6 := (hf5.old (h4.n + 1) (by omega) (by omega)).trans z0
              simp (disch := first | omega | (simp only [hN] <;> omega) | fail) only [go_sem, simprocAttr, b6, b5, t6, t0, z0, z6, hgH.len]
              exact hQ _ ⟨by omega, fun x h1 h2 h3 => by simp (disch := first | omega | (simp only [hN] <;> omega) | fail) only [go_sem, simprocAttr, hf5.old, hfH]⟩
            | ok y =>
              obtain ⟨y, ts4⟩ := y
              rw [hy] at hcl
              simp only at hcl
              intro h5 hf5 hp5
              have hn5 := hf5.n; try simp only [hN] at hn5
              have b6 := (hf5.old b (by omega) (by omega)).trans b5
              have t6 := (hf5.old h4.n (by omega) (by omega)).trans t0
              have z6 := (hf5.old (h4.n + 1) (by omega) (by omega)).trans z0
              have hg5 := hgH.fr hf5 (.inl hlt)
              obtain ⟨h6, css, happ, hn6, g6, hlay, hg6, ho6⟩ := hg5.zapp (m := h5.n) (n := .mk 8 P T y 0 0 0 0 []) (kv := .nilSlice) (by omega) (by omega) .nil (by omega) (fun b hb => (hg5.blk hb).2)
              have d3 : decide (h5.n = b) = false := decide_eq_false (by omega)
              have hvb : ∀ x, x < h.n → blkV v ≠ some x := fun x hx e => by have := hgH.blk e; omega
              have b7 : h6.get b = some ⟨v2, .cells .own 0 [.int .i64 k, .int .i64 p, .str nm, .int .i64 0, .int .i64 (ns.length : Int), .int .i64 0, .int .i64 0, .int .u64 0, v]⟩ := (ho6 b (by omega) (hvb b hbn)).trans b6
              simp only [ndC, zN, Nd.kind, Nd.pos, Nd.name, Nd.typ, Nd.n, Nd.size, Nd.obj, Nd.bits] at happ hlay
              simp (disch := first | omega | (simp only [hN] <;> omega) | fail) only [go_sem, simprocAttr, b6, b5, t6, t0, z6, z0, zN, hg5.len, happ, g6, hlay, b7, d3, k0, k1, k4]
              generalize hH : AHeap.upd (AHeap.upd (AHeap.upd _ _ _ _) _ _ _) _ _ _ = H7
              have hHn7 : H7.n = h6.n := by rw [← hH]; simp (disch := first | omega | (simp only [hN] <;> omega) | fail) only [go_sem, simprocAttr]
              have b8 : H7.get b = some ⟨v2 + 1 + 1, .cells .own 0 [.int .i64 k, .int .i64 p, .str nm, .int .i64 0, .int .i64 ((ns ++ [Nd.mk 8 P T y 0 0 0 0 []]).length : Int), .int .i64 0, .int .i64 0, .int .u64 0, .slice h5.n 0 (ns.length + 1) (ns.length + 1) false]⟩ := by rw [← hH]; simp (disch := first | omega | (simp only [hN] <;> omega) | fail) only [go_sem, simprocAttr, List.length_append, List.length_cons, List.length_nil]; rfl
              have hp7 : PInv H7 r E ts4 lv := by
                rw [← hH]
                exact hp5.le (by simp (disch := first | omega | (simp only [hN] <;> omega) | fail) only [go_sem, simprocAttr]; omega) fun x hx => by
                  simp (disch := first | omega | (simp only [hN] <;> omega) | fail) only [go_sem, simprocAttr]
                  exact ho6 x (by omega) (hvb x (by omega))
              have hf7 : ∀ x, x < h.n → x ≠ r → x ≠ b → H7.get x = h.get x := fun x h1 h2 h3 => by
                rw [← hH]
                simp (disch := first | omega | (simp only [hN] <;> omega) | fail) only [go_sem, simprocAttr]
                rw [ho6 x (by omega) (hvb x (by omega))]
                simp (disch := first | omega | (simp only [hN] <;> omega) | fail) only [go_sem, simprocAttr, hf5.old, hfH]
              have hg7 : GKids h.n H7 (.slice h5.n 0 (ns.length + 1) (ns.length + 1) false) (ns ++ [Nd.mk 8 P T y 0 0 0 0 []]) := by
                rw [← hH]
                exact hg6.keep (by simp (disch := first | omega | (simp only [hN] <;> omega) | fail) only [go_sem, simprocAttr]; omega) fun x _ _ _ hb1 hb2 hb3 => by simp (disch := first | omega | (simp only [hN] <;> omega) | fail) only [go_sem, simprocAttr, ndC, Nd.kind, Nd.pos, Nd.name, Nd.typ, Nd.n, Nd.size, Nd.obj, Nd.bits]
              clear hH hg6 ho6 b7 hlay happ g6 hf5 hfH hgH hg5 hpH hp5 b6 t6 z6 z0 b5 t0
              refine maybe_tok hp7 ?_
              by_cases c3 : isT [[44]] ts4 = true
              · rw [if_pos c3] at hcl ⊢
                intro h8 hf8 hp8
                have hn8 := hf8.n; try simp only [hN] at hn8
                have b9 := (hf8.old b (by omega) (by omega)).trans b8
                simp (disch := first | omega | (simp only [hN] <;> omega) | fail) only [go_sem, simprocAttr, k0, k1, k4]
                exact ⟨g, Nat.lt_succ_self _, true, _, _, _, _, hg7.fr hf8 (.inl hlt), hp8, ⟨by omega, fun x h1 h2 h3 => by rw [hf8.old x (by omega) h2, hf7 x h1 h2 h3]⟩, b9, by rw [List.length_append, List.length_cons, List.length_nil]; omega, .inl ⟨rfl, hcl⟩, rfl⟩
              · rw [if_neg c3] at hcl ⊢
                intro h8 hf8
                have hn8 := hf8.n; try simp only [hN] at hn8
                have b9 := (hf8.old b (by omega) (by omega)).trans b8
                simp (disch := first | omega | (simp only [hN] <;> omega) | fail) only [go_sem, simprocAttr, k0, k1, k4]
                exact ⟨g, Nat.lt_succ_self _, false, _, _, _, _, hg7.fr hf8 (.inr (Nat.le_refl _)), hp7.fr hf8, ⟨by omega, fun x h1 h2 h3 => by rw [hf8.all (by omega), hf7 x h1 h2 h3]⟩, b9, by rw [List.length_append, List.length_cons, List.length_nil]; omega, .inr ⟨rfl, hcl.symm⟩, rfl⟩
          · rw [if_neg hk] at hcl ⊢
            simp only at hcl
            rw [← hcl] at hQ
            intro h4 hf4
            have hn4 := hf4.n; try simp only [hN] at hn4
            simp (disch := first | omega | (simp only [hN] <;> omega) | fail) only [go_sem, simprocAttr]
            exact hQ _ ⟨by omega, fun x h1 h2 h3 => by simp (disch := first | omega | (simp only [hN] <;> omega) | fail) only [go_sem, simprocAttr, hf4.old, hf3]⟩
      · simp (disch := first | omega | (simp only [hN] <;> omega) | fail) only [go_sem, simprocAttr, k0, k1, k4]
        exact ⟨v, ns, ts2, v2, hg, hp3, ⟨hn3, hf3⟩, b3, by omega, hcl⟩
    · rintro ⟨t, df⟩ h3 ⟨v, ns, ts2, v2, hg, hp3, ⟨hn3, hf3⟩, b3, hlen, hcl, k0, k1, hdf⟩
      simp only at k0 k1 hdf
      subst hdf
      rw [hcl] at hQ
      simp only at hQ
      simp (disch := first | omega | (simp only [hN] <;> omega) | fail) only [go_sem, simprocAttr, k0, k1]
      refine must_tok hp3 ?_
      by_cases c2 : isT [[41]] ts2 = true
      · rw [if_pos c2] at hQ ⊢
        intro h4 hf4 hp4
        have hn4 := hf4.n; try simp only [hN] at hn4
        have b4 := (hf4.old b (by omega) (by omega)).trans b3
        simp (disch := first | omega | (simp only [hN] <;> omega) | fail) only [go_sem, simprocAttr]
        exact hQ _ _ _ ⟨by omega, fun x h1 h2 h3 => by simp (disch := first | omega | (simp only [hN] <;> omega) | fail) only [go_sem, simprocAttr, hf4.old, hf3]⟩ hp4 b4 (hg.fr hf4 (.inl hlt))
      · rw [if_neg c2] at hQ ⊢
        intro h4 hf4
        have hn4 := hf4.n; try simp only [hN] at hn4
        simp (disch := first | omega | (simp only [hN] <;> omega) | fail) only [go_sem, simprocAttr]
        exact hQ _ ⟨by omega, fun x h1 h2 h3 => by simp (disch := first | omega | (simp only [hN] <;> omega) | fail) only [go_sem, simprocAttr, hf4.old, hf3]⟩
    · refine ⟨bm, .nilSlice, [], ts1, ver, GKids.nil, hp2, hfo2, b2, ?_, hfm, ?_⟩
      · simpa using hfl
      · simp (disch := first | omega | (simp only [hN] <;> omega) | fail) only [go_sem, simprocAttr]
  · rw [if_neg c1] at hQ ⊢
    intro h1 hf1
    have hn1 := hf1.n; try simp only [hN] at hn1
    simp (disch := first | omega | (simp only [hN] <;> omega) | fail) only [go_sem, simprocAttr]
    exact hQ _ ⟨by omega, fun x h1 h2 h3 => by simp (disch := first | omega | (simp only [hN] <;> omega) | fail) only [go_sem, simprocAttr, hf1.old]⟩
end Go.Ev
