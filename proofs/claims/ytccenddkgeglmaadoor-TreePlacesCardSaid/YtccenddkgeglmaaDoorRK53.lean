/- The tree's reader: statements that begin with a word. -/
import Derived.Test.YtccenddkgeglmaaDoorRK25
set_option linter.all false
set_option linter.unusedVariables false
set_option linter.unusedSimpArgs false
namespace Go.Ev
open Go
set_option maxRecDepth 100000
set_option maxHeartbeats 4000000

theorem tok5 {all : List Tok} {k i : Nat} {t : Tok} (h : all[k]? = some t) {j : Nat} (hj : j < 5) {x : AV} (hx : (tokAV t).cells[j]? = some x) (hi : i = k * 5 + j) : (toksAV all)[i]? = some x := by
  subst hi
  exact (flat_get (f := fun t => (tokAV t).cells) (fun _ => rfl) h hj).trans hx
theorem worded_tok {E : Nat} {h : AHeap} {r lv : Nat} {ts : List Tok} {Q : QR} (hp : PInv h r E ts lv) (hk1 : (hdT E ts).kind = 1) (hsm : ts.length ≤ 2000) (hQ : PQ h r E lv Q (wordedP E lv ts)) : WF F 116 [.ptr r 0] h Q := by
  refine WF.code F116 rfl ?_
  have hlt := hp.hi
  have hne := hdT_ne (E := E) (ts := ts) (by omega)
  simp (disch := first | omega | (simp only [hN] <;> omega) | fail) only [go_sem, simprocAttr]
  refine here_tok (hp.fr ⟨by first | omega | (simp only [hN]; omega), fun b hb hne => by (try simp only [hN] at hb hne); simp (disch := first | omega | (simp only [hN] <;> omega) | fail) only [go_sem, simprocAttr]⟩) ?_
  intro h1 hf1
  have hn1 := hf1.n; try simp only [hN] at hn1
  have hp1 : PInv h1 r E ts lv := hp.fr ⟨by first | omega | (simp only [hN]; omega), fun b hb hne => by (try simp only [hN] at hb hne); simp (disch := first | omega | (simp only [hN] <;> omega) | fail) only [go_sem, simprocAttr, hf1.old]⟩
  have hf : ∀ b', b' < h.n → h1.get b' = h.get b' := fun b' hb' => by simp (disch := first | omega | (simp only [hN] <;> omega) | fail) only [go_sem, simprocAttr, hf1.old]
  have q0 : h1.get h.n = some ⟨0, .cells .own 0 zN⟩ := by simp (disch := first | omega | (simp only [hN] <;> omega) | fail) only [go_sem, simprocAttr, hf1.old]
  clear hf1
  obtain ⟨ver, v, hr, ht⟩ := hp1.st
  have hlen := ht.len
  have hlp : ts.length ≥ 1 := List.length_pos_iff.2 hne
  simp (disch := first | omega | (simp only [hN] <;> omega) | fail) only [go_sem, simprocAttr, tokAV, hr, hlen]
  refine want_cut (fun a h' => h' = h1 ∧ (mark2 ts [58, 61] = false ∧ mark2 ts [40] = false) ∧ a.tm.get 0 = some (.ptr r 0) ∧ a.tm.get 2 = some (.ptr h.n 0) ∧ a.tm.get 3 = some (.int .i64 ((hdT E ts).pos : Int)) ∧ a.df = []) ?_ ?_
  · match ts, hne with
    | [t0], _ =>
      have g1 : decide ((([t0] : List Tok).length : Int) > 1) = false := rfl
      simp (disch := first | omega | (simp only [hN] <;> omega) | fail) only [go_sem, simprocAttr, g1]
      exact ⟨rfl, rfl⟩
    | t0 :: t1 :: tl, _ =>
      have g1 : decide (((t0 :: t1 :: tl).length : Int) > 1) = true := decide_eq_true (by simp only [List.length_cons]; omega)
      have g2 : decide ((1 : Int) < ((t0 :: t1 :: tl).length : Int)) = true := decide_eq_true (by simp only [List.length_cons]; omega)
      rcases ht with ⟨e, _⟩ | ⟨b, vb, k, all, rfl, hb, hc, hd⟩
      · cases e
      have ha1 : all[k + 1]? = some t1 := by
        have := congrArg (fun l => l[1]?) hd
        simpa using this
      have u0 : (toksAV all)[k * 5 + 5]? = some (.int .i64 (t1.kind : Int)) := tok5 (k := k + 1) (j := 0) ha1 (by decide) rfl (by omega)
      have u1 : (toksAV all)[k * 5 + 5 + 1]? = some (.str t1.text) := tok5 (k := k + 1) (j := 1) ha1 (by decide) rfl (by omega)
      generalize hn : ((t0 :: t1 :: tl).length : Int) = N at *
      have hsm1 : (t1 :: tl).length ≤ 2000 := by simp only [List.length_cons] at hsm ⊢; omega
      have hsm2 : tl.length ≤ 2000 := by simp only [List.length_cons] at hsm ⊢; omega
      cases hk5 : ((t1.kind : Int) == 5)
      · have hm : ∀ w, mark2 (t0 :: t1 :: tl) w = false := fun w => by
          have : ¬ t1.kind = 5 := fun e => by rw [e] at hk5; cases hk5
          simp [mark2, this]
        simp (disch := first | omega | (simp only [hN] <;> omega) | fail) only [go_sem, simprocAttr, g1, g2, hr, hc, u0, hk5]
        exact ⟨hm _, hm _⟩
      have hk5' : t1.kind = 5 := by have : (t1.kind : Int) = 5 := by simpa using hk5
                                    omega
      cases ha : (t1.text == [58, 61])
      · cases hbr : (t1.text == [40])
        · have hm1 : mark2 (t0 :: t1 :: tl) [58, 61] = false := by simp only [mark2, ha, Bool.and_false]
          have hm2 : mark2 (t0 :: t1 :: tl) [40] = false := by simp only [mark2, hbr, Bool.and_false]
          simp (disch := first | omega | (simp only [hN] <;> omega) | fail) only [go_sem, simprocAttr, g1, g2, hr, hc, u0, u1, hk5, ha, hbr]
          exact ⟨hm1, hm2⟩
        · have hm1 : mark2 (t0 :: t1 :: tl) [58, 61] = false := by simp only [mark2, ha, Bool.and_false]
          have hm2 : mark2 (t0 :: t1 :: tl) [40] = true := by simp [mark2, hbr, hk5']
          unfold wordedP at hQ
          rw [hm1, hm2] at hQ
          simp only [Bool.false_eq_true, if_false, if_true, List.tail_cons] at hQ
          simp (disch := first | omega | (simp only [hN] <;> omega) | fail) only [go_sem, simprocAttr, g1, g2, hr, hc, u0, u1, hk5, ha, hbr]
          refine take_tok (k := 1) hp1 (by decide) ?_
          rw [if_pos hk1]
          intro h2 hf2 hp2
          have hn2 := hf2.n; try simp only [hN] at hn2
          have r0 := (hf2.old h.n (by omega) (by omega)).trans q0
          simp (disch := first | omega | (simp only [hN] <;> omega) | fail) only [go_sem, simprocAttr, tokAV, r0]
          refine args_tok (hp2.le (by simp (disch := first | omega | (simp only [hN] <;> omega) | fail) only [go_sem, simprocAttr]; omega) fun b hb => by simp (disch := first | omega | (simp only [hN] <;> omega) | fail) only [go_sem, simprocAttr]) (by rw [List.tail_cons]; exact hsm1) ?_
          rw [List.tail_cons]
          cases hx : argsP E lv (t1 :: tl) with
          | error e =>
            obtain ⟨e, p⟩ := e
            rw [hx] at hQ
            intro h3 hf3
            have hn3 := hf3.n; try simp only [hN] at hn3
            simp (disch := first | omega | (simp only [hN] <;> omega) | fail) only [go_sem, simprocAttr]
            exact hQ _ ⟨by first | omega | (simp only [hN]; omega), fun b hb hne => by (try simp only [hN] at hb hne); simp (disch := first | omega | (simp only [hN] <;> omega) | fail) only [go_sem, simprocAttr, hf3.old, hf2.old, hf]⟩
          | ok y =>
            obtain ⟨ks, ts3⟩ := y
            rw [hx] at hQ
            intro h3 hf3 hp3 kv hk3
            have hn3 := hf3.n; try simp only [hN] at hn3
            have s0 : h3.get h.n = some ⟨0, .cells .own 0 zN⟩ := by simp (disch := first | omega | (simp only [hN] <;> omega) | fail) only [go_sem, simprocAttr, hf3.old, r0]
            simp (disch := first | omega | (simp only [hN] <;> omega) | fail) only [go_sem, simprocAttr, hf3.old, hk3.flat.1, hk3.flat.2, s0, r0, zN]
            exact hQ _ kv ⟨by first | omega | (simp only [hN]; omega), fun b hb hne => by (try simp only [hN] at hb hne); simp (disch := first | omega | (simp only [hN] <;> omega) | fail) only [go_sem, simprocAttr, hf3.old, hf2.old, hf]⟩ (hp3.le (by simp (disch := first | omega | (simp only [hN] <;> omega) | fail) only [go_sem, simprocAttr]; omega) fun b hb => by simp (disch := first | omega | (simp only [hN] <;> omega) | fail) only [go_sem, simprocAttr]) (hk3.keep (by simp (disch := first | omega | (simp only [hN] <;> omega) | fail) only [go_sem, simprocAttr]; omega) (by simp (disch := first | omega | (simp only [hN] <;> omega) | fail) only [go_sem, simprocAttr]; omega) fun b hb1 hb2 => by simp only [AHeap.alloc_n, AHeap.upd_n] at hb1; simp (disch := first | omega | (simp only [hN] <;> omega) | fail) only [go_sem, simprocAttr])
      · have ha' : t1.text = [58, 61] := eq_of_beq ha
        have hm1 : mark2 (t0 :: t1 :: tl) [58, 61] = true := by simp [mark2, ha', hk5']
        unfold wordedP at hQ
        rw [hm1] at hQ
        simp only [if_true, List.tail_cons] at hQ
        simp (disch := first | omega | (simp only [hN] <;> omega) | fail) only [go_sem, simprocAttr, g1, g2, hr, hc, u0, u1, hk5, ha]
        refine take_tok (k := 1) hp1 (by decide) ?_
        rw [if_pos hk1]
        intro h2 hf2 hp2
        have hn2 := hf2.n; try simp only [hN] at hn2
        have r0 := (hf2.old h.n (by omega) (by omega)).trans q0
        have hm : isT [[58, 61]] (t0 :: t1 :: tl).tail = true := by simp [isT, hk5', ha']
        simp (disch := first | omega | (simp only [hN] <;> omega) | fail) only [go_sem, simprocAttr, tokAV, r0]
        refine must_tok (hp2.le (by simp (disch := first | omega | (simp only [hN] <;> omega) | fail) only [go_sem, simprocAttr]; omega) fun b hb => by simp (disch := first | omega | (simp only [hN] <;> omega) | fail) only [go_sem, simprocAttr]) ?_
        rw [if_pos hm]
        intro h3 hf3 hp3
        have hn3 := hf3.n; try simp only [hN] at hn3
        have s0 : h3.get h.n = some ⟨0, .cells .own 0 zN⟩ := by simp (disch := first | omega | (simp only [hN] <;> omega) | fail) only [go_sem, simprocAttr, hf3.old, r0]
        simp (disch := first | omega | (simp only [hN] <;> omega) | fail) only [go_sem, simprocAttr]
        refine exprT_tok hp3 (exprT_fine (E := E) lv _).ne ?_
        rw [List.tail_cons, List.tail_cons]
        cases hx : exprT E lv tl with
        | error e =>
          obtain ⟨e, p⟩ := e
          rw [hx] at hQ
          intro h4 hf4
          have hn4 := hf4.n; try simp only [hN] at hn4
          simp (disch := first | omega | (simp only [hN] <;> omega) | fail) only [go_sem, simprocAttr]
          exact hQ _ ⟨by first | omega | (simp only [hN]; omega), fun b hb hne => by (try simp only [hN] at hb hne); simp (disch := first | omega | (simp only [hN] <;> omega) | fail) only [go_sem, simprocAttr, hf4.old, hf3.old, hf2.old, hf]⟩
        | ok y =>
          obtain ⟨m, ts3⟩ := y
          rw [hx] at hQ
          intro h4 kv hf4 hp4 hk4
          have hn4 := hf4.n; try simp only [hN] at hn4
          have v0 : h4.get h.n = some ⟨0, .cells .own 0 zN⟩ := by simp (disch := first | omega | (simp only [hN] <;> omega) | fail) only [go_sem, simprocAttr, hf4.old, s0]
          simp (disch := first | omega | (simp only [hN] <;> omega) | fail) only [go_sem, simprocAttr, hf4.old, hf3.old, hk4.flat.1, hk4.flat.2, v0, s0, r0, zN]
          refine hQ _ _ ⟨by first | omega | (simp only [hN]; omega), fun b hb hne => by (try simp only [hN] at hb hne); simp (disch := first | omega | (simp only [hN] <;> omega) | fail) only [go_sem, simprocAttr, hf4.old, hf3.old, hf2.old, hf]⟩ (hp4.le (by simp (disch := first | omega | (simp only [hN] <;> omega) | fail) only [go_sem, simprocAttr]; omega) fun b hb => by simp (disch := first | omega | (simp only [hN] <;> omega) | fail) only [go_sem, simprocAttr]) ?_
          exact KidsR.one (ver := 0) (kv := kv) (hk4.keep (by omega) (by simp (disch := first | omega | (simp only [hN] <;> omega) | fail) only [go_sem, simprocAttr]; omega) fun b hb1 hb2 => by simp (disch := first | omega | (simp only [hN] <;> omega) | fail) only [go_sem, simprocAttr]) (by omega) (by simp (disch := first | omega | (simp only [hN] <;> omega) | fail) only [go_sem, simprocAttr]; omega) (by simp (disch := first | omega | (simp only [hN] <;> omega) | fail) only [go_sem, simprocAttr])
  · rintro ⟨t, df⟩ h2 ⟨rfl, ⟨m1, m2⟩, k0, k2, k3, hdf⟩
    simp only at k0 k2 k3 hdf
    subst hdf
    unfold wordedP at hQ
    rw [m1, m2] at hQ
    simp only [Bool.false_eq_true, if_false] at hQ
    simp (disch := first | omega | (simp only [hN] <;> omega) | fail) only [go_sem, simprocAttr, k0, k2, k3]
    refine target_tok hp1 hsm ?_
    have hfi := targetP_fine (E := E) lv ts
    generalize (hdT E ts).pos = P at *
    cases hx : targetP E lv ts with
    | error e =>
      obtain ⟨e, p⟩ := e
      rw [hx] at hQ
      intro h3 hf3
      have hn3 := hf3.n; try simp only [hN] at hn3
      simp (disch := first | omega | (simp only [hN] <;> omega) | fail) only [go_sem, simprocAttr]
      exact hQ _ ⟨by first | omega | (simp only [hN]; omega), fun b hb hne => by (try simp only [hN] at hb hne); simp (disch := first | omega | (simp only [hN] <;> omega) | fail) only [go_sem, simprocAttr, hf3.old, hf]⟩
    | ok y =>
      obtain ⟨m, ts1⟩ := y
      rw [hx] at hQ hfi
      simp only [FE] at hQ hfi
      intro h3 kv hf3 hp3 hk3
      have hn3 := hf3.n; try simp only [hN] at hn3
      have r0 := (hf3.old h.n (by omega) (by omega)).trans q0
      simp (disch := first | omega | (simp only [hN] <;> omega) | fail) only [go_sem, simprocAttr, k0, k2, k3, hk3.flat.1, hk3.flat.2]
      cases hk28 : (m.kind == 28)
      · simp (disch := first | omega | (simp only [hN] <;> omega) | fail) only [go_sem, simprocAttr, k0, k2, k3]
        refine must_tok (hp3.le (by simp (disch := first | omega | (simp only [hN] <;> omega) | fail) only [go_sem, simprocAttr]; omega) fun b hb => by simp (disch := first | omega | (simp only [hN] <;> omega) | fail) only [go_sem, simprocAttr]) ?_
        by_cases hm : isT [[61]] ts1 = true
        · simp only [mustP, if_pos hm] at hQ
          rw [if_pos hm]
          intro h5 hf5 hp5
          have hn5 := hf5.n; try simp only [hN] at hn5
          have t0 : h5.get h.n = some ⟨0, .cells .own 0 zN⟩ := by simp (disch := first | omega | (simp only [hN] <;> omega) | fail) only [go_sem, simprocAttr, hf5.old, hf3.old, q0, r0, zN]
          have t1 : h5.get h3.n = some ⟨1, .cells .own 0 (ndC m kv)⟩ := by simp (disch := first | omega | (simp only [hN] <;> omega) | fail) only [go_sem, simprocAttr, hf5.old, hf3.old, ndC]
          have hk5 : KidsR (h.n + 1) h5 m.kids kv := hk3.keep (by omega) (by omega) fun b hb1 hb2 => by simp (disch := first | omega | (simp only [hN] <;> omega) | fail) only [go_sem, simprocAttr, hf5.old, hf3.old]
          have hf' : ∀ b', b' < h.n → b' ≠ r → h5.get b' = h.get b' := fun b' hb' hr' => by simp (disch := first | omega | (simp only [hN] <;> omega) | fail) only [go_sem, simprocAttr, hf5.old, hf3.old, hf3.old, hf]
          clear hf5 hf3 hk3
          simp (disch := first | omega | (simp only [hN] <;> omega) | fail) only [go_sem, simprocAttr, t1, ndC, k0, k2, k3]
          refine exprT_tok hp5 (exprT_fine (E := E) lv _).ne ?_
          cases hx : exprT E lv ts1.tail with
          | error e =>
            obtain ⟨e, p⟩ := e
            rw [hx] at hQ
            intro h6 hf6
            have hn6 := hf6.n; try simp only [hN] at hn6
            simp (disch := first | omega | (simp only [hN] <;> omega) | fail) only [go_sem, simprocAttr, k0, k2, k3, hf6.old, t1]
            exact hQ _ ⟨by first | omega | (simp only [hN]; omega), fun b hb hne => by (try simp only [hN] at hb hne); simp (disch := first | omega | (simp only [hN] <;> omega) | fail) only [go_sem, simprocAttr, hf6.old, hf']⟩
          | ok y =>
            obtain ⟨m2, ts3⟩ := y
            rw [hx] at hQ
            intro h6 kv2 hf6 hp6 hk6
            have hn6 := hf6.n; try simp only [hN] at hn6
            have u0 : h6.get h.n = some ⟨0, .cells .own 0 zN⟩ := by simp (disch := first | omega | (simp only [hN] <;> omega) | fail) only [go_sem, simprocAttr, hf6.old, t0]
            have u1 : h6.get h3.n = some ⟨1, .cells .own 0 (ndC m kv)⟩ := by simp (disch := first | omega | (simp only [hN] <;> omega) | fail) only [go_sem, simprocAttr, hf6.old, t1]
            simp (disch := first | omega | (simp only [hN] <;> omega) | fail) only [go_sem, simprocAttr, hf6.old, hk5.flat.1, hk5.flat.2, hk6.flat.1, hk6.flat.2, u0, u1, t1, t0, zN, ndC, k0, k2, k3]
            refine hQ _ _ ⟨by first | omega | (simp only [hN]; omega), fun b hb hne => by (try simp only [hN] at hb hne); simp (disch := first | omega | (simp only [hN] <;> omega) | fail) only [go_sem, simprocAttr, hf6.old, hf']⟩ (hp6.le (by simp (disch := first | omega | (simp only [hN] <;> omega) | fail) only [go_sem, simprocAttr]; omega) fun b hb => by simp (disch := first | omega | (simp only [hN] <;> omega) | fail) only [go_sem, simprocAttr]) ?_
            exact KidsR.two (n := m) (m := m2) (ver := 0) (kv := kv) (mv := kv2) (hk5.keep (by omega) (by simp (disch := first | omega | (simp only [hN] <;> omega) | fail) only [go_sem, simprocAttr]; omega) fun b hb1 hb2 => by simp (disch := first | omega | (simp only [hN] <;> omega) | fail) only [go_sem, simprocAttr, hf6.old]) (hk6.keep (by omega) (by simp (disch := first | omega | (simp only [hN] <;> omega) | fail) only [go_sem, simprocAttr]; omega) fun b hb1 hb2 => by simp (disch := first | omega | (simp only [hN] <;> omega) | fail) only [go_sem, simprocAttr]) (by omega) (by simp (disch := first | omega | (simp only [hN] <;> omega) | fail) only [go_sem, simprocAttr]; omega) (by simp (disch := first | omega | (simp only [hN] <;> omega) | fail) only [go_sem, simprocAttr, ndC, List.cons_append, List.nil_append])
        · simp only [mustP, if_neg hm] at hQ
          rw [if_neg hm]
          intro h5 hf5
          have hn5 := hf5.n; try simp only [hN] at hn5
          simp (disch := first | omega | (simp only [hN] <;> omega) | fail) only [go_sem, simprocAttr]
          exact hQ _ ⟨by first | omega | (simp only [hN]; omega), fun b hb hne => by (try simp only [hN] at hb hne); simp (disch := first | omega | (simp only [hN] <;> omega) | fail) only [go_sem, simprocAttr, hf5.old, hf3.old, hf3.old, hf]⟩
      · simp (disch := first | omega | (simp only [hN] <;> omega) | fail) only [go_sem, simprocAttr, k0, k2, k3]
        refine is_tok (ws := [[61]]) (md := .own) (ver := 0) (E := E) (ts := ts1) (lv := lv) (hp3.le (by simp (disch := first | omega | (simp only [hN] <;> omega) | fail) only [go_sem, simprocAttr]; omega) fun b hb => by simp (disch := first | omega | (simp only [hN] <;> omega) | fail) only [go_sem, simprocAttr]) (by (first | (simp (disch := first | omega | (simp only [hN] <;> omega) | fail) only [go_sem, simprocAttr, List.map]; done) | (simp (disch := first | omega | (simp only [hN] <;> omega) | fail) only [go_sem, simprocAttr, List.map]; rfl))) (by simp (disch := first | omega | (simp only [hN] <;> omega) | fail) only [go_sem, simprocAttr]; omega) (show 1 < 2 ^ 62 by decide) ?_
        intro h4 hf4
        have hn4 := hf4.n; try simp only [hN] at hn4
        have hp4 : PInv h4 r E ts1 lv := hp3.le (by omega) fun b hb => by simp (disch := first | omega | (simp only [hN] <;> omega) | fail) only [go_sem, simprocAttr, hf4.old]
        cases hi : isT [[61]] ts1
        · have hi' : ¬ isT [[61]] ts1 = true := by rw [hi]; decide
          simp only [mustP, if_neg hi'] at hQ
          simp (disch := first | omega | (simp only [hN] <;> omega) | fail) only [go_sem, simprocAttr, k0, k2, k3]
          refine wrong_tok hp4 ?_
          intro h5 hf5
          have hn5 := hf5.n; try simp only [hN] at hn5
          simp (disch := first | omega | (simp only [hN] <;> omega) | fail) only [go_sem, simprocAttr]
          exact hQ _ ⟨by first | omega | (simp only [hN]; omega), fun b hb hne => by (try simp only [hN] at hb hne); simp (disch := first | omega | (simp only [hN] <;> omega) | fail) only [go_sem, simprocAttr, hf5.old, hf4.old, hf3.old, hf]⟩
        · simp (disch := first | omega | (simp only [hN] <;> omega) | fail) only [go_sem, simprocAttr, k0, k2, k3]
          refine must_tok hp4 ?_
          by_cases hm : isT [[61]] ts1 = true
          · simp only [mustP, if_pos hm] at hQ
            rw [if_pos hm]
            intro h5 hf5 hp5
            have hn5 := hf5.n; try simp only [hN] at hn5
            have t0 : h5.get h.n = some ⟨0, .cells .own 0 zN⟩ := by simp (disch := first | omega | (simp only [hN] <;> omega) | fail) only [go_sem, simprocAttr, hf5.old, hf4.old, q0, r0, zN]
            have t1 : h5.get h3.n = some ⟨1, .cells .own 0 (ndC m kv)⟩ := by simp (disch := first | omega | (simp only [hN] <;> omega) | fail) only [go_sem, simprocAttr, hf5.old, hf4.old, ndC]
            have hk5 : KidsR (h.n + 1) h5 m.kids kv := hk3.keep (by omega) (by omega) fun b hb1 hb2 => by simp (disch := first | omega | (simp only [hN] <;> omega) | fail) only [go_sem, simprocAttr, hf5.old, hf4.old]
            have hf' : ∀ b', b' < h.n → b' ≠ r → h5.get b' = h.get b' := fun b' hb' hr' => by simp (disch := first | omega | (simp only [hN] <;> omega) | fail) only [go_sem, simprocAttr, hf5.old, hf4.old, hf3.old, hf]
            clear hf5 hf4 hf3 hk3
            simp (disch := first | omega | (simp only [hN] <;> omega) | fail) only [go_sem, simprocAttr, t1, ndC, k0, k2, k3]
            refine exprT_tok hp5 (exprT_fine (E := E) lv _).ne ?_
            cases hx : exprT E lv ts1.tail with
            | error e =>
              obtain ⟨e, p⟩ := e
              rw [hx] at hQ
              intro h6 hf6
              have hn6 := hf6.n; try simp only [hN] at hn6
              simp (disch := first | omega | (simp only [hN] <;> omega) | fail) only [go_sem, simprocAttr, k0, k2, k3, hf6.old, t1]
              exact hQ _ ⟨by first | omega | (simp only [hN]; omega), fun b hb hne => by (try simp only [hN] at hb hne); simp (disch := first | omega | (simp only [hN] <;> omega) | fail) only [go_sem, simprocAttr, hf6.old, hf']⟩
            | ok y =>
              obtain ⟨m2, ts3⟩ := y
              rw [hx] at hQ
              intro h6 kv2 hf6 hp6 hk6
              have hn6 := hf6.n; try simp only [hN] at hn6
              have u0 : h6.get h.n = some ⟨0, .cells .own 0 zN⟩ := by simp (disch := first | omega | (simp only [hN] <;> omega) | fail) only [go_sem, simprocAttr, hf6.old, t0]
              have u1 : h6.get h3.n = some ⟨1, .cells .own 0 (ndC m kv)⟩ := by simp (disch := first | omega | (simp only [hN] <;> omega) | fail) only [go_sem, simprocAttr, hf6.old, t1]
              simp (disch := first | omega | (simp only [hN] <;> omega) | fail) only [go_sem, simprocAttr, hf6.old, hk5.flat.1, hk5.flat.2, hk6.flat.1, hk6.flat.2, u0, u1, t1, t0, zN, ndC, k0, k2, k3]
              refine hQ _ _ ⟨by first | omega | (simp only [hN]; omega), fun b hb hne => by (try simp only [hN] at hb hne); simp (disch := first | omega | (simp only [hN] <;> omega) | fail) only [go_sem, simprocAttr, hf6.old, hf']⟩ (hp6.le (by simp (disch := first | omega | (simp only [hN] <;> omega) | fail) only [go_sem, simprocAttr]; omega) fun b hb => by simp (disch := first | omega | (simp only [hN] <;> omega) | fail) only [go_sem, simprocAttr]) ?_
              exact KidsR.two (n := m) (m := m2) (ver := 0) (kv := kv) (mv := kv2) (hk5.keep (by omega) (by simp (disch := first | omega | (simp only [hN] <;> omega) | fail) only [go_sem, simprocAttr]; omega) fun b hb1 hb2 => by simp (disch := first | omega | (simp only [hN] <;> omega) | fail) only [go_sem, simprocAttr, hf6.old]) (hk6.keep (by omega) (by simp (disch := first | omega | (simp only [hN] <;> omega) | fail) only [go_sem, simprocAttr]; omega) fun b hb1 hb2 => by simp (disch := first | omega | (simp only [hN] <;> omega) | fail) only [go_sem, simprocAttr]) (by omega) (by simp (disch := first | omega | (simp only [hN] <;> omega) | fail) only [go_sem, simprocAttr]; omega) (by simp (disch := first | omega | (simp only [hN] <;> omega) | fail) only [go_sem, simprocAttr, ndC, List.cons_append, List.nil_append])
          · simp only [mustP, if_neg hm] at hQ
            rw [if_neg hm]
            intro h5 hf5
            have hn5 := hf5.n; try simp only [hN] at hn5
            simp (disch := first | omega | (simp only [hN] <;> omega) | fail) only [go_sem, simprocAttr]
            exact hQ _ ⟨by first | omega | (simp only [hN]; omega), fun b hb hne => by (try simp only [hN] at hb hne); simp (disch := first | omega | (simp only [hN] <;> omega) | fail) only [go_sem, simprocAttr, hf5.old, hf4.old, hf3.old, hf]⟩
end Go.Ev
/- The tree's reader: statements that end with a semicolon. (printed by gen54.py) -/
namespace Go.Ev
open Go
set_option maxRecDepth 100000
set_option maxHeartbeats 4000000

theorem isT_key {E : Nat} {w : Bs} {ts : List Tok} (hk : (hdT E ts).kind = 2) (hw : (hdT E ts).text = w) : isT [w] ts = true := by
  cases ts with
  | nil => cases hk
  | cons t tl => simp only [hdT] at hk hw; simp [isT, hk, hw]
theorem eq_bs {a b : Bs} (h : a = b) : (a == b) = true := by subst h; exact beq_self_eq_true _
theorem ne_bs {a b : Bs} (h : ¬ a = b) : (a == b) = false := by cases hb : (a == b); rfl; exact absurd (eq_of_beq hb) h
theorem simple_tok {E : Nat} : PSpecT 111 E (simpleP E) := by
  intro h r lv ts Q hp hsm hQ
  refine WF.code F111 rfl ?_
  have hlt := hp.hi
  simp (disch := first | omega | (simp only [hN] <;> omega) | fail) only [go_sem, simprocAttr]
  refine here_tok (E := E) (lv := lv) (ts := ts) (hp.fr ⟨by first | omega | (simp only [hN]; omega), fun b hb hne => by (try simp only [hN] at hb hne); simp (disch := first | omega | (simp only [hN] <;> omega) | fail) only [go_sem, simprocAttr]⟩) ?_
  intro h1 hf1
  have hn1 := hf1.n; try simp only [hN] at hn1
  have q0 : h1.get h.n = some ⟨0, .cells .own 0 zN⟩ := by simp (disch := first | omega | (simp only [hN] <;> omega) | fail) only [go_sem, simprocAttr, hf1.old]
  have hf : ∀ b', b' < h.n → h1.get b' = h.get b' := fun b' hb' => by simp (disch := first | omega | (simp only [hN] <;> omega) | fail) only [go_sem, simprocAttr, hf1.old]
  have hp1 : PInv h1 r E ts lv := hp.fr ⟨by first | omega | (simp only [hN]; omega), fun b hb hne => by (try simp only [hN] at hb hne); simp (disch := first | omega | (simp only [hN] <;> omega) | fail) only [go_sem, simprocAttr, hf]⟩
  have hlt1 := hp1.hi
  clear hf1
  simp (disch := first | omega | (simp only [hN] <;> omega) | fail) only [go_sem, simprocAttr, tokAV]
  generalize hH : (h1.alloc (AObj.cells Md.own 0 [AV.int IntKind.i64 0, AV.str [], AV.int IntKind.i64 0, AV.int IntKind.u64 0, AV.int IntKind.i64 0])).upd h1.n 1 (AObj.cells Md.own 0 [AV.int IntKind.i64 ((hdT E ts).kind : Int), AV.str (hdT E ts).text, AV.int IntKind.i64 ((hdT E ts).n : Int), AV.int IntKind.u64 ((hdT E ts).bits : Int), AV.int IntKind.i64 ((hdT E ts).pos : Int)]) = H
  have hHn : H.n = h1.n + 1 := by rw [← hH]; simp (disch := first | omega | (simp only [hN] <;> omega) | fail) only [go_sem, simprocAttr]
  have hH1 : ∀ b', b' < h1.n → H.get b' = h1.get b' := fun b' hb' => by rw [← hH]; simp (disch := first | omega | (simp only [hN] <;> omega) | fail) only [go_sem, simprocAttr]
  have hHt : H.get h1.n = some ⟨1, .cells .own 0 [.int .i64 ((hdT E ts).kind : Int), .str (hdT E ts).text, .int .i64 ((hdT E ts).n : Int), .int .u64 ((hdT E ts).bits : Int), .int .i64 ((hdT E ts).pos : Int)]⟩ := by rw [← hH]; simp (disch := first | omega | (simp only [hN] <;> omega) | fail) only [go_sem, simprocAttr]
  have hpH : PInv H r E ts lv := hp1.fr ⟨by omega, fun b hb _ => hH1 b hb⟩
  have q0 : H.get h.n = some ⟨0, .cells .own 0 zN⟩ := by rw [hH1 _ (by omega)]; exact q0
  have hf : ∀ b', b' < h.n → H.get b' = h.get b' := fun b' hb' => by rw [hH1 _ (by omega), hf _ hb']
  generalize h1.n = B at *
  clear hH1 hp1 hH
  unfold simpleP at hQ
  by_cases k1 : (hdT E ts).kind = 1
  · rw [if_pos k1] at hQ
    have e1 : (((hdT E ts).kind : Int) == 1) = true := by simp [k1]
    simp (disch := first | omega | (simp only [hN] <;> omega) | fail) only [go_sem, simprocAttr, hHt, e1]
    refine worded_tok hpH k1 hsm ?_
    cases hx : wordedP E lv ts with
    | error e =>
      obtain ⟨e, p⟩ := e
      rw [hx] at hQ
      intro h2 hf2
      have hn2 := hf2.n; try simp only [hN] at hn2
      simp (disch := first | omega | (simp only [hN] <;> omega) | fail) only [go_sem, simprocAttr]
      exact hQ _ ⟨by first | omega | (simp only [hN]; omega), fun b hb hne => by (try simp only [hN] at hb hne); simp (disch := first | omega | (simp only [hN] <;> omega) | fail) only [go_sem, simprocAttr, hf2.old, hf]⟩
    | ok y =>
      obtain ⟨k, ts2⟩ := y
      rw [hx] at hQ
      intro h2 kv hf2 hp2 hk2
      have hn2 := hf2.n; try simp only [hN] at hn2
      have q3 := (hf2.old h.n (by omega) (by omega)).trans q0
      simp (disch := first | omega | (simp only [hN] <;> omega) | fail) only [go_sem, simprocAttr, q3, zN, hk2.flat.1, hk2.flat.2]
      exact hQ _ kv ⟨by first | omega | (simp only [hN]; omega), fun b hb hne => by (try simp only [hN] at hb hne); simp (disch := first | omega | (simp only [hN] <;> omega) | fail) only [go_sem, simprocAttr, hf2.old, hf]⟩ (hp2.fr' (q := h.n) (Fr.upd _ _ _) hlt) (hk2.keep (by omega) (by simp (disch := first | omega | (simp only [hN] <;> omega) | fail) only [go_sem, simprocAttr]; omega) fun b hb1 hb2 => by simp (disch := first | omega | (simp only [hN] <;> omega) | fail) only [go_sem, simprocAttr])
  rw [if_neg k1] at hQ
  have e1 : (((hdT E ts).kind : Int) == 1) = false := by simp; omega
  by_cases k2 : (hdT E ts).kind ≠ 2
  · rw [if_pos k2] at hQ
    have e2 : (((hdT E ts).kind : Int) != 2) = true := by simp; omega
    simp (disch := first | omega | (simp only [hN] <;> omega) | fail) only [go_sem, simprocAttr, hHt, e1, e2]
    refine wrong_tok hpH ?_
    intro h2 hf2
    have hn2 := hf2.n; try simp only [hN] at hn2
    simp (disch := first | omega | (simp only [hN] <;> omega) | fail) only [go_sem, simprocAttr]
    exact hQ _ ⟨by first | omega | (simp only [hN]; omega), fun b hb hne => by (try simp only [hN] at hb hne); simp (disch := first | omega | (simp only [hN] <;> omega) | fail) only [go_sem, simprocAttr, hf2.old, hf]⟩
  rw [if_neg k2] at hQ
  have k2 : (hdT E ts).kind = 2 := by omega
  have e2 : (((hdT E ts).kind : Int) != 2) = false := by simp [k2]
  simp (disch := first | omega | (simp only [hN] <;> omega) | fail) only [go_sem, simprocAttr, hHt, e1, e2]
  clear e1 e2
  have hne := hdT_ne (E := E) (ts := ts) (by omega)
  by_cases g : (hdT E ts).text = [103, 111]
  · rw [if_pos g] at hQ
    simp (disch := first | omega | (simp only [hN] <;> omega) | fail) only [go_sem, simprocAttr, hHt, eq_bs g]
    refine must_tok hpH ?_
    rw [if_pos (isT_key k2 g)]
    intro h2 hf2 hp2
    have hn2 := hf2.n; try simp only [hN] at hn2
    have r1 := (hf2.old B (by omega) (by omega)).trans hHt
    have r0 := (hf2.old h.n (by omega) (by omega)).trans q0
    have hf' : ∀ b', b' < h.n → b' ≠ r → h2.get b' = h.get b' := fun b' hb1 hb2 => by simp (disch := first | omega | (simp only [hN] <;> omega) | fail) only [go_sem, simprocAttr, hf2.old, hf]
    clear hf2 hf hHt q0
    have d1 : decide (B = h2.n) = false := decide_eq_false (by omega)
    have d2 : decide (h2.n = B) = false := decide_eq_false (by omega)
    simp (disch := first | omega | (simp only [hN] <;> omega) | fail) only [go_sem, simprocAttr, r1, d1]
    unfold goP takeP at hQ
    have hsm1 : ts.tail.length ≤ 2000 := by rw [List.length_tail]; omega
    generalize (hdT E ts).pos = P at *
    generalize ts.tail = ts1 at *
    refine take_tok (k := 1) (hp2.le (by simp (disch := first | omega | (simp only [hN] <;> omega) | fail) only [go_sem, simprocAttr]; omega) fun b hb => by simp (disch := first | omega | (simp only [hN] <;> omega) | fail) only [go_sem, simprocAttr]) (by decide) ?_
    by_cases hk : (hdT E ts1).kind = 1
    · rw [if_pos hk] at hQ ⊢
      simp only at hQ
      intro h3 hf3 hp3
      have hn3 := hf3.n; try simp only [hN] at hn3
      have s1 : h3.get B = h2.get B := by simp (disch := first | omega | (simp only [hN] <;> omega) | fail) only [go_sem, simprocAttr, hf3.old]
      have s2 : h3.get h2.n = some ⟨0, .cells .own 0 zN⟩ := by simp (disch := first | omega | (simp only [hN] <;> omega) | fail) only [go_sem, simprocAttr, hf3.old, zN]
      have s0 : h3.get h.n = some ⟨0, .cells .own 0 zN⟩ := by simp (disch := first | omega | (simp only [hN] <;> omega) | fail) only [go_sem, simprocAttr, hf3.old, r0, zN]
      have hf3' : ∀ b', b' < h.n → b' ≠ r → h3.get b' = h.get b' := fun b' hb1 hb2 => by simp (disch := first | omega | (simp only [hN] <;> omega) | fail) only [go_sem, simprocAttr, hf3.old, hf']
      have hsm2 : ts1.tail.length ≤ 2000 := by rw [List.length_tail]; omega
      rw [r1] at s1
      clear hf3 hf'
      simp (disch := first | omega | (simp only [hN] <;> omega) | fail) only [go_sem, simprocAttr, tokAV, s1, s2, r1, zN, d1, d2]
      refine args_tok (hp3.le (by simp (disch := first | omega | (simp only [hN] <;> omega) | fail) only [go_sem, simprocAttr]; omega) fun b hb => by simp (disch := first | omega | (simp only [hN] <;> omega) | fail) only [go_sem, simprocAttr]) hsm2 ?_
      cases hx : argsP E lv ts1.tail with
      | error e =>
        obtain ⟨e, p⟩ := e
        rw [hx] at hQ
        intro h4 hf4
        have hn4 := hf4.n; try simp only [hN] at hn4
        simp (disch := first | omega | (simp only [hN] <;> omega) | fail) only [go_sem, simprocAttr]
        exact hQ _ ⟨by first | omega | (simp only [hN]; omega), fun b hb hne => by (try simp only [hN] at hb hne); simp (disch := first | omega | (simp only [hN] <;> omega) | fail) only [go_sem, simprocAttr, hf4.old, hf3']⟩
      | ok y =>
        obtain ⟨ks, ts4⟩ := y
        rw [hx] at hQ
        intro h4 hf4 hp4 kv hk4
        have hn4 := hf4.n; try simp only [hN] at hn4
        have t2 : h4.get h2.n = some ⟨1, .cells .own 0 [.int .i64 12, .int .i64 (P : Int), .str (hdT E ts1).text, .int .i64 0, .int .i64 0, .int .i64 0, .int .i64 0, .int .u64 0, .nilSlice]⟩ := by simp (disch := first | omega | (simp only [hN] <;> omega) | fail) only [go_sem, simprocAttr, hf4.old]
        have t0 : h4.get h.n = some ⟨0, .cells .own 0 zN⟩ := by simp (disch := first | omega | (simp only [hN] <;> omega) | fail) only [go_sem, simprocAttr, hf4.old, s0]
        have hf4' : ∀ b', b' < h.n → b' ≠ r → h4.get b' = h.get b' := fun b' hb1 hb2 => by simp (disch := first | omega | (simp only [hN] <;> omega) | fail) only [go_sem, simprocAttr, hf4.old, hf3']
        clear hf4 hf3'
        simp (disch := first | omega | (simp only [hN] <;> omega) | fail) only [go_sem, simprocAttr, t2, t0, zN, hk4.flat.1, hk4.flat.2]
        exact hQ _ kv ⟨by first | omega | (simp only [hN]; omega), fun b hb hne => by (try simp only [hN] at hb hne); simp (disch := first | omega | (simp only [hN] <;> omega) | fail) only [go_sem, simprocAttr, hf4']⟩ (hp4.le (by simp (disch := first | omega | (simp only [hN] <;> omega) | fail) only [go_sem, simprocAttr]; omega) fun b hb => by simp (disch := first | omega | (simp only [hN] <;> omega) | fail) only [go_sem, simprocAttr]) (hk4.keep (by simp (disch := first | omega | (simp only [hN] <;> omega) | fail) only [go_sem, simprocAttr]; omega) (by simp (disch := first | omega | (simp only [hN] <;> omega) | fail) only [go_sem, simprocAttr]; omega) fun b hb1 hb2 => by simp only [AHeap.alloc_n, AHeap.upd_n] at hb1; simp (disch := first | omega | (simp only [hN] <;> omega) | fail) only [go_sem, simprocAttr])
    · rw [if_neg hk] at hQ ⊢
      intro h3 hf3
      have hn3 := hf3.n; try simp only [hN] at hn3
      simp (disch := first | omega | (simp only [hN] <;> omega) | fail) only [go_sem, simprocAttr, r1, hf3.old]
      exact hQ _ ⟨by first | omega | (simp only [hN]; omega), fun b hb hne => by (try simp only [hN] at hb hne); simp (disch := first | omega | (simp only [hN] <;> omega) | fail) only [go_sem, simprocAttr, hf3.old, hf']⟩
  rw [if_neg g] at hQ
  simp (disch := first | omega | (simp only [hN] <;> omega) | fail) only [go_sem, simprocAttr, hHt, ne_bs g]
  clear g
  by_cases g : (hdT E ts).text = [108, 111, 99, 107]
  · rw [if_pos g] at hQ
    simp (disch := first | omega | (simp only [hN] <;> omega) | fail) only [go_sem, simprocAttr, hHt, eq_bs g]
    refine named_tok (kd := 14) (what := 0) (by decide) hpH hne hsm ?_
    cases hx : namedP E 14 0 lv ts with
    | error e =>
      obtain ⟨e, p⟩ := e
      rw [hx] at hQ
      intro h2 hf2
      have hn2 := hf2.n; try simp only [hN] at hn2
      simp (disch := first | omega | (simp only [hN] <;> omega) | fail) only [go_sem, simprocAttr]
      exact hQ _ ⟨by first | omega | (simp only [hN]; omega), fun b hb hne => by (try simp only [hN] at hb hne); simp (disch := first | omega | (simp only [hN] <;> omega) | fail) only [go_sem, simprocAttr, hf2.old, hf]⟩
    | ok y =>
      obtain ⟨k, ts2⟩ := y
      rw [hx] at hQ
      intro h2 kv hf2 hp2 hk2
      have hn2 := hf2.n; try simp only [hN] at hn2
      have q3 := (hf2.old h.n (by omega) (by omega)).trans q0
      simp (disch := first | omega | (simp only [hN] <;> omega) | fail) only [go_sem, simprocAttr, q3, zN, hk2.flat.1, hk2.flat.2]
      exact hQ _ kv ⟨by first | omega | (simp only [hN]; omega), fun b hb hne => by (try simp only [hN] at hb hne); simp (disch := first | omega | (simp only [hN] <;> omega) | fail) only [go_sem, simprocAttr, hf2.old, hf]⟩ (hp2.fr' (q := h.n) (Fr.upd _ _ _) hlt) (hk2.keep (by omega) (by simp (disch := first | omega | (simp only [hN] <;> omega) | fail) only [go_sem, simprocAttr]; omega) fun b hb1 hb2 => by simp (disch := first | omega | (simp only [hN] <;> omega) | fail) only [go_sem, simprocAttr])
  rw [if_neg g] at hQ
  simp (disch := first | omega | (simp only [hN] <;> omega) | fail) only [go_sem, simprocAttr, hHt, ne_bs g]
  clear g
  by_cases g : (hdT E ts).text = [117, 110, 108, 111, 99, 107]
  · rw [if_pos g] at hQ
    simp (disch := first | omega | (simp only [hN] <;> omega) | fail) only [go_sem, simprocAttr, hHt, eq_bs g]
    refine named_tok (kd := 15) (what := 0) (by decide) hpH hne hsm ?_
    cases hx : namedP E 15 0 lv ts with
    | error e =>
      obtain ⟨e, p⟩ := e
      rw [hx] at hQ
      intro h2 hf2
      have hn2 := hf2.n; try simp only [hN] at hn2
      simp (disch := first | omega | (simp only [hN] <;> omega) | fail) only [go_sem, simprocAttr]
      exact hQ _ ⟨by first | omega | (simp only [hN]; omega), fun b hb hne => by (try simp only [hN] at hb hne); simp (disch := first | omega | (simp only [hN] <;> omega) | fail) only [go_sem, simprocAttr, hf2.old, hf]⟩
    | ok y =>
      obtain ⟨k, ts2⟩ := y
      rw [hx] at hQ
      intro h2 kv hf2 hp2 hk2
      have hn2 := hf2.n; try simp only [hN] at hn2
      have q3 := (hf2.old h.n (by omega) (by omega)).trans q0
      simp (disch := first | omega | (simp only [hN] <;> omega) | fail) only [go_sem, simprocAttr, q3, zN, hk2.flat.1, hk2.flat.2]
      exact hQ _ kv ⟨by first | omega | (simp only [hN]; omega), fun b hb hne => by (try simp only [hN] at hb hne); simp (disch := first | omega | (simp only [hN] <;> omega) | fail) only [go_sem, simprocAttr, hf2.old, hf]⟩ (hp2.fr' (q := h.n) (Fr.upd _ _ _) hlt) (hk2.keep (by omega) (by simp (disch := first | omega | (simp only [hN] <;> omega) | fail) only [go_sem, simprocAttr]; omega) fun b hb1 hb2 => by simp (disch := first | omega | (simp only [hN] <;> omega) | fail) only [go_sem, simprocAttr])
  rw [if_neg g] at hQ
  simp (disch := first | omega | (simp only [hN] <;> omega) | fail) only [go_sem, simprocAttr, hHt, ne_bs g]
  clear g
  by_cases g : (hdT E ts).text = [115, 101, 110, 100]
  · rw [if_pos g] at hQ
    simp (disch := first | omega | (simp only [hN] <;> omega) | fail) only [go_sem, simprocAttr, hHt, eq_bs g]
    refine named_tok (kd := 16) (what := 1) (by decide) hpH hne hsm ?_
    cases hx : namedP E 16 1 lv ts with
    | error e =>
      obtain ⟨e, p⟩ := e
      rw [hx] at hQ
      intro h2 hf2
      have hn2 := hf2.n; try simp only [hN] at hn2
      simp (disch := first | omega | (simp only [hN] <;> omega) | fail) only [go_sem, simprocAttr]
      exact hQ _ ⟨by first | omega | (simp only [hN]; omega), fun b hb hne => by (try simp only [hN] at hb hne); simp (disch := first | omega | (simp only [hN] <;> omega) | fail) only [go_sem, simprocAttr, hf2.old, hf]⟩
    | ok y =>
      obtain ⟨k, ts2⟩ := y
      rw [hx] at hQ
      intro h2 kv hf2 hp2 hk2
      have hn2 := hf2.n; try simp only [hN] at hn2
      have q3 := (hf2.old h.n (by omega) (by omega)).trans q0
      simp (disch := first | omega | (simp only [hN] <;> omega) | fail) only [go_sem, simprocAttr, q3, zN, hk2.flat.1, hk2.flat.2]
      exact hQ _ kv ⟨by first | omega | (simp only [hN]; omega), fun b hb hne => by (try simp only [hN] at hb hne); simp (disch := first | omega | (simp only [hN] <;> omega) | fail) only [go_sem, simprocAttr, hf2.old, hf]⟩ (hp2.fr' (q := h.n) (Fr.upd _ _ _) hlt) (hk2.keep (by omega) (by simp (disch := first | omega | (simp only [hN] <;> omega) | fail) only [go_sem, simprocAttr]; omega) fun b hb1 hb2 => by simp (disch := first | omega | (simp only [hN] <;> omega) | fail) only [go_sem, simprocAttr])
  rw [if_neg g] at hQ
  simp (disch := first | omega | (simp only [hN] <;> omega) | fail) only [go_sem, simprocAttr, hHt, ne_bs g]
  clear g
  by_cases g : (hdT E ts).text = [114, 101, 99, 118]
  · rw [if_pos g] at hQ
    simp (disch := first | omega | (simp only [hN] <;> omega) | fail) only [go_sem, simprocAttr, hHt, eq_bs g]
    refine named_tok (kd := 17) (what := 2) (by decide) hpH hne hsm ?_
    cases hx : namedP E 17 2 lv ts with
    | error e =>
      obtain ⟨e, p⟩ := e
      rw [hx] at hQ
      intro h2 hf2
      have hn2 := hf2.n; try simp only [hN] at hn2
      simp (disch := first | omega | (simp only [hN] <;> omega) | fail) only [go_sem, simprocAttr]
      exact hQ _ ⟨by first | omega | (simp only [hN]; omega), fun b hb hne => by (try simp only [hN] at hb hne); simp (disch := first | omega | (simp only [hN] <;> omega) | fail) only [go_sem, simprocAttr, hf2.old, hf]⟩
    | ok y =>
      obtain ⟨k, ts2⟩ := y
      rw [hx] at hQ
      intro h2 kv hf2 hp2 hk2
      have hn2 := hf2.n; try simp only [hN] at hn2
      have q3 := (hf2.old h.n (by omega) (by omega)).trans q0
      simp (disch := first | omega | (simp only [hN] <;> omega) | fail) only [go_sem, simprocAttr, q3, zN, hk2.flat.1, hk2.flat.2]
      exact hQ _ kv ⟨by first | omega | (simp only [hN]; omega), fun b hb hne => by (try simp only [hN] at hb hne); simp (disch := first | omega | (simp only [hN] <;> omega) | fail) only [go_sem, simprocAttr, hf2.old, hf]⟩ (hp2.fr' (q := h.n) (Fr.upd _ _ _) hlt) (hk2.keep (by omega) (by simp (disch := first | omega | (simp only [hN] <;> omega) | fail) only [go_sem, simprocAttr]; omega) fun b hb1 hb2 => by simp (disch := first | omega | (simp only [hN] <;> omega) | fail) only [go_sem, simprocAttr])
  rw [if_neg g] at hQ
  simp (disch := first | omega | (simp only [hN] <;> omega) | fail) only [go_sem, simprocAttr, hHt, ne_bs g]
  clear g
  by_cases g : (hdT E ts).text = [97, 100, 100]
  · rw [if_pos g] at hQ
    simp (disch := first | omega | (simp only [hN] <;> omega) | fail) only [go_sem, simprocAttr, hHt, eq_bs g]
    refine named_tok (kd := 18) (what := 1) (by decide) hpH hne hsm ?_
    cases hx : namedP E 18 1 lv ts with
    | error e =>
      obtain ⟨e, p⟩ := e
      rw [hx] at hQ
      intro h2 hf2
      have hn2 := hf2.n; try simp only [hN] at hn2
      simp (disch := first | omega | (simp only [hN] <;> omega) | fail) only [go_sem, simprocAttr]
      exact hQ _ ⟨by first | omega | (simp only [hN]; omega), fun b hb hne => by (try simp only [hN] at hb hne); simp (disch := first | omega | (simp only [hN] <;> omega) | fail) only [go_sem, simprocAttr, hf2.old, hf]⟩
    | ok y =>
      obtain ⟨k, ts2⟩ := y
      rw [hx] at hQ
      intro h2 kv hf2 hp2 hk2
      have hn2 := hf2.n; try simp only [hN] at hn2
      have q3 := (hf2.old h.n (by omega) (by omega)).trans q0
      simp (disch := first | omega | (simp only [hN] <;> omega) | fail) only [go_sem, simprocAttr, q3, zN, hk2.flat.1, hk2.flat.2]
      exact hQ _ kv ⟨by first | omega | (simp only [hN]; omega), fun b hb hne => by (try simp only [hN] at hb hne); simp (disch := first | omega | (simp only [hN] <;> omega) | fail) only [go_sem, simprocAttr, hf2.old, hf]⟩ (hp2.fr' (q := h.n) (Fr.upd _ _ _) hlt) (hk2.keep (by omega) (by simp (disch := first | omega | (simp only [hN] <;> omega) | fail) only [go_sem, simprocAttr]; omega) fun b hb1 hb2 => by simp (disch := first | omega | (simp only [hN] <;> omega) | fail) only [go_sem, simprocAttr])
  rw [if_neg g] at hQ
  simp (disch := first | omega | (simp only [hN] <;> omega) | fail) only [go_sem, simprocAttr, hHt, ne_bs g]
  clear g
  by_cases g : (hdT E ts).text = [112, 117, 116]
  · rw [if_pos g] at hQ
    simp (disch := first | omega | (simp only [hN] <;> omega) | fail) only [go_sem, simprocAttr, hHt, eq_bs g]
    refine named_tok (kd := 19) (what := 1) (by decide) hpH hne hsm ?_
    cases hx : namedP E 19 1 lv ts with
    | error e =>
      obtain ⟨e, p⟩ := e
      rw [hx] at hQ
      intro h2 hf2
      have hn2 := hf2.n; try simp only [hN] at hn2
      simp (disch := first | omega | (simp only [hN] <;> omega) | fail) only [go_sem, simprocAttr]
      exact hQ _ ⟨by first | omega | (simp only [hN]; omega), fun b hb hne => by (try simp only [hN] at hb hne); simp (disch := first | omega | (simp only [hN] <;> omega) | fail) only [go_sem, simprocAttr, hf2.old, hf]⟩
    | ok y =>
      obtain ⟨k, ts2⟩ := y
      rw [hx] at hQ
      intro h2 kv hf2 hp2 hk2
      have hn2 := hf2.n; try simp only [hN] at hn2
      have q3 := (hf2.old h.n (by omega) (by omega)).trans q0
      simp (disch := first | omega | (simp only [hN] <;> omega) | fail) only [go_sem, simprocAttr, q3, zN, hk2.flat.1, hk2.flat.2]
      exact hQ _ kv ⟨by first | omega | (simp only [hN]; omega), fun b hb hne => by (try simp only [hN] at hb hne); simp (disch := first | omega | (simp only [hN] <;> omega) | fail) only [go_sem, simprocAttr, hf2.old, hf]⟩ (hp2.fr' (q := h.n) (Fr.upd _ _ _) hlt) (hk2.keep (by omega) (by simp (disch := first | omega | (simp only [hN] <;> omega) | fail) only [go_sem, simprocAttr]; omega) fun b hb1 hb2 => by simp (disch := first | omega | (simp only [hN] <;> omega) | fail) only [go_sem, simprocAttr])
  rw [if_neg g] at hQ
  simp (disch := first | omega | (simp only [hN] <;> omega) | fail) only [go_sem, simprocAttr, hHt, ne_bs g]
  clear g
  by_cases g : (hdT E ts).text = [103, 101, 116]
  · rw [if_pos g] at hQ
    simp (disch := first | omega | (simp only [hN] <;> omega) | fail) only [go_sem, simprocAttr, hHt, eq_bs g]
    refine named_tok (kd := 20) (what := 2) (by decide) hpH hne hsm ?_
    cases hx : namedP E 20 2 lv ts with
    | error e =>
      obtain ⟨e, p⟩ := e
      rw [hx] at hQ
      intro h2 hf2
      have hn2 := hf2.n; try simp only [hN] at hn2
      simp (disch := first | omega | (simp only [hN] <;> omega) | fail) only [go_sem, simprocAttr]
      exact hQ _ ⟨by first | omega | (simp only [hN]; omega), fun b hb hne => by (try simp only [hN] at hb hne); simp (disch := first | omega | (simp only [hN] <;> omega) | fail) only [go_sem, simprocAttr, hf2.old, hf]⟩
    | ok y =>
      obtain ⟨k, ts2⟩ := y
      rw [hx] at hQ
      intro h2 kv hf2 hp2 hk2
      have hn2 := hf2.n; try simp only [hN] at hn2
      have q3 := (hf2.old h.n (by omega) (by omega)).trans q0
      simp (disch := first | omega | (simp only [hN] <;> omega) | fail) only [go_sem, simprocAttr, q3, zN, hk2.flat.1, hk2.flat.2]
      exact hQ _ kv ⟨by first | omega | (simp only [hN]; omega), fun b hb hne => by (try simp only [hN] at hb hne); simp (disch := first | omega | (simp only [hN] <;> omega) | fail) only [go_sem, simprocAttr, hf2.old, hf]⟩ (hp2.fr' (q := h.n) (Fr.upd _ _ _) hlt) (hk2.keep (by omega) (by simp (disch := first | omega | (simp only [hN] <;> omega) | fail) only [go_sem, simprocAttr]; omega) fun b hb1 hb2 => by simp (disch := first | omega | (simp only [hN] <;> omega) | fail) only [go_sem, simprocAttr])
  rw [if_neg g] at hQ
  simp (disch := first | omega | (simp only [hN] <;> omega) | fail) only [go_sem, simprocAttr, hHt, ne_bs g]
  clear g
  by_cases g : (hdT E ts).text = [114, 101, 116, 117, 114, 110]
  · rw [if_pos g] at hQ
    simp (disch := first | omega | (simp only [hN] <;> omega) | fail) only [go_sem, simprocAttr, hHt, eq_bs g]
    refine must_tok hpH ?_
    rw [if_pos (isT_key k2 g)]
    intro h2 hf2 hp2
    have hn2 := hf2.n; try simp only [hN] at hn2
    have r1 := (hf2.old B (by omega) (by omega)).trans hHt
    have r0 := (hf2.old h.n (by omega) (by omega)).trans q0
    simp (disch := first | omega | (simp only [hN] <;> omega) | fail) only [go_sem, simprocAttr, r1, r0, zN]
    exact hQ _ .nilSlice ⟨by first | omega | (simp only [hN]; omega), fun b hb hne => by (try simp only [hN] at hb hne); simp (disch := first | omega | (simp only [hN] <;> omega) | fail) only [go_sem, simprocAttr, hf2.old, hf]⟩ (hp2.fr' (q := h.n) (Fr.upd _ _ _) hlt) .nil
  rw [if_neg g] at hQ
  simp (disch := first | omega | (simp only [hN] <;> omega) | fail) only [go_sem, simprocAttr, hHt, ne_bs g]
  clear g
  unfold failP mustP at hQ
  refine must_tok hpH ?_
  by_cases g : isT [[102, 97, 105, 108]] ts = true
  · rw [if_pos g] at hQ ⊢
    simp only at hQ
    intro h2 hf2 hp2
    have hn2 := hf2.n; try simp only [hN] at hn2
    have r1 := (hf2.old B (by omega) (by omega)).trans hHt
    have r0 := (hf2.old h.n (by omega) (by omega)).trans q0
    have hf' : ∀ b', b' < h.n → b' ≠ r → h2.get b' = h.get b' := fun b' hb1 hb2 => by simp (disch := first | omega | (simp only [hN] <;> omega) | fail) only [go_sem, simprocAttr, hf2.old, hf]
    clear hf2 hf hHt q0
    simp (disch := first | omega | (simp only [hN] <;> omega) | fail) only [go_sem, simprocAttr, r1]
    refine exprT_tok hp2 (exprT_fine (E := E) lv _).ne ?_
    cases hx : exprT E lv ts.tail with
    | error e =>
      obtain ⟨e, p⟩ := e
      rw [hx] at hQ
      intro h3 hf3
      have hn3 := hf3.n; try simp only [hN] at hn3
      have s1 := (hf3.old B (by omega) (by omega)).trans r1
      simp (disch := first | omega | (simp only [hN] <;> omega) | fail) only [go_sem, simprocAttr, s1, r1]
      exact hQ _ ⟨by first | omega | (simp only [hN]; omega), fun b hb hne => by (try simp only [hN] at hb hne); simp (disch := first | omega | (simp only [hN] <;> omega) | fail) only [go_sem, simprocAttr, hf3.old, hf']⟩
    | ok y =>
      obtain ⟨m, ts3⟩ := y
      rw [hx] at hQ
      intro h3 kv hf3 hp3 hk3
      have hn3 := hf3.n; try simp only [hN] at hn3
      have s1 := (hf3.old B (by omega) (by omega)).trans r1
      have s0 := (hf3.old h.n (by omega) (by omega)).trans r0
      simp (disch := first | omega | (simp only [hN] <;> omega) | fail) only [go_sem, simprocAttr, s1, s0, r1, zN, hk3.flat.1, hk3.flat.2]
      exact hQ _ _ ⟨by first | omega | (simp only [hN]; omega), fun b hb hne => by (try simp only [hN] at hb hne); simp (disch := first | omega | (simp only [hN] <;> omega) | fail) only [go_sem, simprocAttr, hf3.old, hf']⟩ (hp3.le (by simp (disch := first | omega | (simp only [hN] <;> omega) | fail) only [go_sem, simprocAttr]; omega) fun b hb => by simp (disch := first | omega | (simp only [hN] <;> omega) | fail) only [go_sem, simprocAttr]) (KidsR.one (n := m) (ver := 0) (kv := kv) (hk3.keep (by omega) (by simp (disch := first | omega | (simp only [hN] <;> omega) | fail) only [go_sem, simprocAttr]; omega) fun b hb1 hb2 => by simp (disch := first | omega | (simp only [hN] <;> omega) | fail) only [go_sem, simprocAttr]) (by omega) (by simp (disch := first | omega | (simp only [hN] <;> omega) | fail) only [go_sem, simprocAttr]; omega) (by simp (disch := first | omega | (simp only [hN] <;> omega) | fail) only [go_sem, simprocAttr]))
  · rw [if_neg g] at hQ ⊢
    intro h2 hf2
    have hn2 := hf2.n; try simp only [hN] at hn2
    simp (disch := first | omega | (simp only [hN] <;> omega) | fail) only [go_sem, simprocAttr]
    exact hQ _ ⟨by first | omega | (simp only [hN]; omega), fun b hb hne => by (try simp only [hN] at hb hne); simp (disch := first | omega | (simp only [hN] <;> omega) | fail) only [go_sem, simprocAttr, hf2.old, hf]⟩
end Go.Ev
/- The tree's reader: statements and blocks. -/
namespace Go.Ev
open Go
set_option maxRecDepth 100000
set_option maxHeartbeats 4000000

/-- A function of the reader does what a parser does, of fewer tokens than m. -/
def PSpecB (m fid E : Nat) (u : PT) : Prop := ∀ {h : AHeap} {r lv : Nat} {ts : List Tok} {Q : QR}, PInv h r E ts lv → ts.length ≤ 2000 → ts.length < m → PQ h r E lv Q (u lv ts) → WF F fid [.ptr r 0] h Q
theorem one_app {lo b ver : Nat} {h : AHeap} {x n : Nd} {xv kv : AV} (hb : h.get b = some ⟨ver, .cells .own 9 (ndC x xv)⟩) (hbn : b < h.n) (hlo : lo ≤ h.n) (hx : KidsR lo h x.kids xv) (hk : KidsR lo h n.kids kv) :
    ∃ v' h', appendA h 9 96 (.slice b 0 1 1 true) 1 (ndC n kv) = some (v', h') ∧ GKids lo h' v' [x, n] ∧ blkV v' = some h.n ∧ h'.n = h.n + 1 ∧ ∀ b, b < h.n → h'.get b = h.get b := by
  refine ⟨.slice h.n 0 2 2 false, h.alloc (.cells .own 9 (ndC x xv ++ ndC n kv)), ?_, ⟨ndC x xv ++ ndC n kv, ⟨rfl, .inr ⟨Nat.succ_pos _, h.n, 0, rfl, hlo, by rw [AHeap.alloc_n]; omega, by rw [AHeap.get_alloc, if_pos rfl]⟩⟩, ?_⟩, rfl, rfl, fun b hb => by rw [AHeap.get_alloc, if_neg (by omega)]⟩
  · have hrow : row (ndC x xv) 0 9 = some (ndC x xv) := rfl
    have hfl : allFlat (ndC n kv) = true := by simp only [ndC, allFlat, List.all_cons, List.all_nil, hk.flat.1]; rfl
    have r1 : Nat.ble 2 room = true := by simp only [room]; decide
    have r2 : Nat.ble (2 * 96) room = true := by simp only [room]; decide
    have l9 : (ndC n kv).length = 9 := rfl
    simp only [appendA, hb, hfl, l9, hrow, r1, r2]
    rfl
  · have f : ∀ b, lo ≤ b ∧ b < h.n → (h.alloc (.cells .own 9 (ndC x xv ++ ndC n kv))).get b = h.get b := fun b hb => by rw [AHeap.get_alloc, if_neg (by omega)]
    have := RowsS.cons (n := x) (kv := xv) (S := fun y => lo ≤ y ∧ blkV (.slice h.n 0 2 2 false) ≠ some y) (KidsS.keep9 (fun b hb hl => ⟨hb, by simp [blkV]; omega⟩) (Nat.le_succ _) (fun b _ _ _ hb hl _ => f b ⟨hb, hl⟩) hx) (RowsS.cons (n := n) (kv := kv) (KidsS.keep9 (fun b hb hl => ⟨hb, by simp [blkV]; omega⟩) (Nat.le_succ _) (fun b _ _ _ hb hl _ => f b ⟨hb, hl⟩) hk) RowsS.nil)
    rwa [List.append_nil] at this
theorem block_tok {E m : Nat} {st : PT} (hs : PSpecB m 103 E st) (hfs : FineM m st) : PSpecB (m + 1) 84 E (blockOf E st) := by
  intro h r lv ts Q hp hsm hm hQ
  refine WF.code F84 rfl ?_
  have hlt := hp.hi
  simp (disch := first | omega | (simp only [hN] <;> omega) | fail) only [go_sem, simprocAttr]
  unfold blockOf openP at hQ
  refine open_tok (hp.fr ⟨by first | omega | (simp only [hN]; omega), fun b hb hne => by (try simp only [hN] at hb hne); simp (disch := first | omega | (simp only [hN] <;> omega) | fail) only [go_sem, simprocAttr]⟩) ?_
  by_cases c1 : isT [[123]] ts = true
  · rw [if_pos c1] at hQ ⊢
    by_cases h16 : lv = 16
    · rw [if_pos h16] at hQ ⊢
      intro h1 hf1
      have hn1 := hf1.n; try simp only [hN] at hn1
      simp (disch := first | omega | (simp only [hN] <;> omega) | fail) only [go_sem, simprocAttr]
      exact hQ _ ⟨by first | omega | (simp only [hN]; omega), fun b hb hne => by (try simp only [hN] at hb hne); simp (disch := first | omega | (simp only [hN] <;> omega) | fail) only [go_sem, simprocAttr, hf1.old]⟩
    · rw [if_neg h16] at hQ ⊢
      simp only at hQ
      intro h1 hf1 hp1
      have hn1 := hf1.n; try simp only [hN] at hn1
      simp (disch := first | omega | (simp only [hN] <;> omega) | fail) only [go_sem, simprocAttr, tokAV]
      have hlt1 := hp1.hi
      have htl : ts.tail.length + 1 ≤ ts.length := tail_lt (isT_ne c1)
      generalize (hdT E ts).pos = P at *
      generalize ts.tail = ts1 at *
      have hR : ∃ R, upToL (st (lv + 1)) (isT [[125]]) (ts1.length + 1) [] ts1 = R := ⟨_, rfl⟩
      obtain ⟨R, hR⟩ := hR
      rw [hR] at hQ
      have hz : R ≠ .error (0, 0) := by
        rw [← hR]
        exact (upToL_fine (hfs (lv + 1)) (ts1.length + 1) [] ts1 (by omega) (by omega)).ne
      generalize hH : AHeap.upd (AHeap.alloc _ _) h1.n _ _ = H
      have hHn : H.n = h1.n + 1 := by rw [← hH]; simp (disch := first | omega | (simp only [hN] <;> omega) | fail) only [go_sem, simprocAttr]
      have b0 : H.get h1.n = some ⟨1, .cells .own 0 (ndC (nd0 9 P [] []) .nilSlice)⟩ := by rw [← hH]; simp (disch := first | omega | (simp only [hN] <;> omega) | fail) only [go_sem, simprocAttr, ndC, nd0, Nd.kind, Nd.pos, Nd.name, Nd.typ, Nd.n, Nd.size, Nd.obj, Nd.bits]
      have q0 : H.get h.n = some ⟨0, .cells .own 0 zN⟩ := by rw [← hH]; simp (disch := first | omega | (simp only [hN] <;> omega) | fail) only [go_sem, simprocAttr, hf1.old, zN]
      have hpH : PInv H r E ts1 (lv + 1) := by rw [← hH]; exact hp1.le (by simp (disch := first | omega | (simp only [hN] <;> omega) | fail) only [go_sem, simprocAttr]; omega) fun b hb => by simp (disch := first | omega | (simp only [hN] <;> omega) | fail) only [go_sem, simprocAttr]
      have hfH : ∀ b', b' < h.n → b' ≠ r → H.get b' = h.get b' := fun b' hb1 hb2 => by rw [← hH]; simp (disch := first | omega | (simp only [hN] <;> omega) | fail) only [go_sem, simprocAttr, hf1.old]
      have hB : h.n < h1.n := by omega
      have hnf : ts1.length + 1 ≤ 2001 := by omega
      have hs1 : ts1.length ≤ 2000 := by omega
      have hm1 : ts1.length < m := by omega
      generalize ts1.length + 1 = fu at *
      generalize h1.n = B at *
      clear hH hf1 hp1 hn1 hlt1
      refine wp_loopx 0 (fun g a h' => ∃ v ns ts2 v2, GKids h.n h' v ns ∧ PInv h' r E ts2 (lv + 1) ∧ h'.get B = some ⟨v2, .cells .own 0 (ndC (nd0 9 P [] []) v)⟩ ∧ h'.get h.n = some ⟨0, .cells .own 0 zN⟩ ∧ B < h'.n ∧ (∀ b', b' < h.n → b' ≠ r → h'.get b' = h.get b') ∧ ns.length + g ≤ 2001 ∧ ts2.length ≤ 2000 ∧ ts2.length < m ∧ upToL (st (lv + 1)) (isT [[125]]) g ns ts2 = R ∧ a.tm.get 0 = some (.ptr r 0) ∧ a.tm.get 2 = some (.ptr h.n 0) ∧ a.tm.get 3 = some (.ptr B 0) ∧ a.df = [])
        (fun a h' => ∃ v ns ts2 v2, GKids h.n h' v ns ∧ PInv h' r E ts2 (lv + 1) ∧ h'.get B = some ⟨v2, .cells .own 0 (ndC (nd0 9 P [] []) v)⟩ ∧ h'.get h.n = some ⟨0, .cells .own 0 zN⟩ ∧ B < h'.n ∧ (∀ b', b' < h.n → b' ≠ r → h'.get b' = h.get b') ∧ ns.length ≤ 2001 ∧ isT [[125]] ts2 = true ∧ R = .ok (ns, ts2) ∧ a.tm.get 0 = some (.ptr r 0) ∧ a.tm.get 2 = some (.ptr h.n 0) ∧ a.tm.get 3 = some (.ptr B 0) ∧ a.df = []) ?_ ?_ fu ?_
      · rintro g ⟨t, df⟩ h3 ⟨v, ns, ts2, v2, hg, hp3, b3, q3, hn3, hf3, hlen, hs2, hm2, hcl, k0, k2, k3, hdf⟩
        simp only at k0 k2 k3 hdf
        subst hdf
        have hlt3 := hp3.hi
        cases g with
        | zero => exact absurd hcl.symm hz
        | succ g =>
          rw [upToL] at hcl
          simp (disch := first | omega | (simp only [hN] <;> omega) | fail) only [go_sem, simprocAttr, k0, k2, k3]
          refine is_tok (ws := [[125]]) (md := .own) (ver := 0) (E := E) (ts := ts2) (lv := lv + 1) (hp3.fr ⟨by first | omega | (simp only [hN]; omega), fun b hb hne => by (try simp only [hN] at hb hne); simp (disch := first | omega | (simp only [hN] <;> omega) | fail) only [go_sem, simprocAttr]⟩) (by (first | (simp (disch := first | omega | (simp only [hN] <;> omega) | fail) only [go_sem, simprocAttr, List.map]; done) | (simp (disch := first | omega | (simp only [hN] <;> omega) | fail) only [go_sem, simprocAttr, List.map]; rfl))) (by simp (disch := first | omega | (simp only [hN] <;> omega) | fail) only [go_sem, simprocAttr]; omega) (show 1 < 2 ^ 62 by decide) ?_
          intro h4 hf4
          have hn4 := hf4.n; try simp only [hN] at hn4
          have hp4 : PInv h4 r E ts2 (lv + 1) := hp3.fr ⟨by first | omega | (simp only [hN]; omega), fun b hb hne => by (try simp only [hN] at hb hne); simp (disch := first | omega | (simp only [hN] <;> omega) | fail) only [go_sem, simprocAttr, hf4.old]⟩
          have hg4 : GKids h.n h4 v ns := hg.keep (by omega) fun b _ _ _ _ hb _ => by simp (disch := first | omega | (simp only [hN] <;> omega) | fail) only [go_sem, simprocAttr, hf4.old]
          have b4 : h4.get B = some ⟨v2, .cells .own 0 (ndC (nd0 9 P [] []) v)⟩ := by simp (disch := first | omega | (simp only [hN] <;> omega) | fail) only [go_sem, simprocAttr, hf4.old, b3]
          have q4 : h4.get h.n = some ⟨0, .cells .own 0 zN⟩ := by simp (disch := first | omega | (simp only [hN] <;> omega) | fail) only [go_sem, simprocAttr, hf4.old, q3]
          have hf4' : ∀ b', b' < h.n → b' ≠ r → h4.get b' = h.get b' := fun b' hb1 hb2 => by simp (disch := first | omega | (simp only [hN] <;> omega) | fail) only [go_sem, simprocAttr, hf4.old, hf3]
          clear hf4 hp3 hg b3 q3 hf3
          cases hi : isT [[125]] ts2
          · rw [if_neg (by rw [hi]; decide)] at hcl
            have b4l : h4.get B = some ⟨v2, .cells .own 0 [.int .i64 9, .int .i64 (P : Int), .str [], .int .i64 0, .int .i64 0, .int .i64 0, .int .i64 0, .int .u64 0, v]⟩ := b4
            simp (disch := first | omega | (simp only [hN] <;> omega) | fail) only [go_sem, simprocAttr, k0, k2, k3, b4l]
            refine hs hp4 hs2 hm2 ?_
            cases hx : st (lv + 1) ts2 with
            | error e =>
              obtain ⟨e, p⟩ := e
              rw [hx] at hcl
              simp only at hcl
              rw [← hcl] at hQ
              intro h5 hf5
              have hn5 := hf5.n; try simp only [hN] at hn5
              have b5l := (hf5.old B (by omega) (by omega)).trans b4l
              simp (disch := first | omega | (simp only [hN] <;> omega) | fail) only [go_sem, simprocAttr, b5l, b4l]
              exact hQ _ ⟨by first | omega | (simp only [hN]; omega), fun b hb hne => by (try simp only [hN] at hb hne); simp (disch := first | omega | (simp only [hN] <;> omega) | fail) only [go_sem, simprocAttr, hf5.old, hf4']⟩
            | ok y =>
              obtain ⟨n, ts3⟩ := y
              rw [hx] at hcl
              simp only at hcl
              have hfn := hfs (lv + 1) ts2 hm2
              rw [hx] at hfn
              simp only [FE] at hfn
              intro h5 kv hf5 hp5 hk5
              have hn5 := hf5.n; try simp only [hN] at hn5
              have b5l := (hf5.old B (by omega) (by omega)).trans b4l
              have q5 := (hf5.old h.n (by omega) (by omega)).trans q4
              have hg5 : GKids h.n (h5.alloc (.cells .own 9 (ndC n kv))) v ns := (hg4.fr hf5 (.inl hlt)).fr (Fr.alloc (Fr.refl h5.n h5) _) (.inr (Nat.le_refl _))
              obtain ⟨v6, h6, happ, hg6, hb6, hn6, ho6⟩ := hg5.append (by simp (disch := first | omega | (simp only [hN] <;> omega) | fail) only [go_sem, simprocAttr]; omega) (by omega) (hk5.keep (lo' := h4.n) (Nat.le_refl _) (by simp (disch := first | omega | (simp only [hN] <;> omega) | fail) only [go_sem, simprocAttr]; omega) fun b hb1 hb2 => by simp (disch := first | omega | (simp only [hN] <;> omega) | fail) only [go_sem, simprocAttr]) (by omega) (fun b hb => (hg4.blk hb).2)
              have hvB : blkV v ≠ some B := fun e => by
                obtain ⟨css, hsl, _⟩ := hg4
                obtain ⟨_, ⟨_, rfl⟩ | ⟨_, c, ver, rfl, _, _, hc⟩⟩ := hsl
                · cases e
                · cases e; rw [b4] at hc; cases hc
              have hvN : blkV v ≠ some h.n := fun e => by
                obtain ⟨css, hsl, _⟩ := hg4
                obtain ⟨_, ⟨_, rfl⟩ | ⟨_, c, ver, rfl, _, _, hc⟩⟩ := hsl
                · cases e
                · cases e; rw [q4] at hc; cases hc
              have b6 : h6.get B = some ⟨v2, .cells .own 0 [.int .i64 9, .int .i64 (P : Int), .str [], .int .i64 0, .int .i64 0, .int .i64 0, .int .i64 0, .int .u64 0, v]⟩ := by rw [ho6 B (by simp (disch := first | omega | (simp only [hN] <;> omega) | fail) only [go_sem, simprocAttr]; omega) hvB]; simp (disch := first | omega | (simp only [hN] <;> omega) | fail) only [go_sem, simprocAttr, b5l]
              have q6 : h6.get h.n = some ⟨0, .cells .own 0 zN⟩ := by rw [ho6 h.n (by simp (disch := first | omega | (simp only [hN] <;> omega) | fail) only [go_sem, simprocAttr]; omega) hvN]; simp (disch := first | omega | (simp only [hN] <;> omega) | fail) only [go_sem, simprocAttr, q5]
              have hf6 : ∀ b', b' < h.n → b' ≠ r → h6.get b' = h.get b' := fun b' hb1 hb2 => by
                rw [ho6 b' (by simp (disch := first | omega | (simp only [hN] <;> omega) | fail) only [go_sem, simprocAttr]; omega) (fun e => by have := hg4.blk e; omega)]
                simp (disch := first | omega | (simp only [hN] <;> omega) | fail) only [go_sem, simprocAttr, hf5.old, hf4']
              have hp6 : PInv h6 r E ts3 (lv + 1) := hp5.le (by rw [hn6]; simp (disch := first | omega | (simp only [hN] <;> omega) | fail) only [go_sem, simprocAttr]; omega) fun b hb => by
                rw [ho6 b (by simp (disch := first | omega | (simp only [hN] <;> omega) | fail) only [go_sem, simprocAttr]; omega) (fun e => by have := hg4.blk e; omega)]
                simp (disch := first | omega | (simp only [hN] <;> omega) | fail) only [go_sem, simprocAttr]
              simp only [AHeap.alloc_n] at hn6
              simp only [ndC] at happ
              simp (disch := first | omega | (simp only [hN] <;> omega) | fail) only [go_sem, simprocAttr, k0, k2, k3, hk5.flat.1, hk5.flat.2, happ, b5l, b4l, b6, hg6.flat.1, hg6.flat.2]
              refine ⟨g, Nat.lt_succ_self _, v6, ns ++ [n], ts3, v2 + 1, hg6.keep (by simp (disch := first | omega | (simp only [hN] <;> omega) | fail) only [go_sem, simprocAttr]; omega) (fun b _ _ _ hb1 hb2 hb3 => ?_), hp6.le (by simp (disch := first | omega | (simp only [hN] <;> omega) | fail) only [go_sem, simprocAttr]; omega) (fun b hb => by simp (disch := first | omega | (simp only [hN] <;> omega) | fail) only [go_sem, simprocAttr]), rfl, q6, by omega, fun b hb1 hb2 => by simp (disch := first | omega | (simp only [hN] <;> omega) | fail) only [go_sem, simprocAttr, hf6], by rw [List.length_append]; simp only [List.length_cons, List.length_nil]; omega, by omega, by omega, hcl⟩
              have : b ≠ B := by rintro rfl; rw [b6] at hb3; cases hb3
              simp (disch := first | omega | (simp only [hN] <;> omega) | fail) only [go_sem, simprocAttr]
          · rw [if_pos hi] at hcl
            simp (disch := first | omega | (simp only [hN] <;> omega) | fail) only [go_sem, simprocAttr, k0, k2, k3]
            exact ⟨v, ns, ts2, v2, hg4, hp4, b4, q4, by omega, hf4', by omega, hi, hcl.symm⟩
      · rintro ⟨t, df⟩ h3 ⟨v, ns, ts2, v2, hg, hp3, b3, q3, hn3, hf3, hlen, hi, hcl, k0, k2, k3, hdf⟩
        simp only at k0 k2 k3 hdf
        subst hdf
        rw [hcl] at hQ
        simp (disch := first | omega | (simp only [hN] <;> omega) | fail) only [go_sem, simprocAttr, k0, k2, k3]
        refine close_tok (lv := lv) hp3 ?_
        rw [if_pos hi]
        intro h4 hf4 hp4
        have hn4 := hf4.n; try simp only [hN] at hn4
        have hlt4 := hp4.hi
        have b4 : h4.get B = some ⟨v2, .cells .own 0 [.int .i64 9, .int .i64 (P : Int), .str [], .int .i64 0, .int .i64 0, .int .i64 0, .int .i64 0, .int .u64 0, v]⟩ := (hf4.old B (by omega) (by omega)).trans b3
        have q4 := (hf4.old h.n (by omega) (by omega)).trans q3
        have hg4 := (hg.fr hf4 (.inl hlt)).kids (by omega)
        simp (disch := first | omega | (simp only [hN] <;> omega) | fail) only [go_sem, simprocAttr, k0, k2, k3, b4, q4, hg.flat.1, hg.flat.2, zN]
        exact hQ _ v ⟨by first | omega | (simp only [hN]; omega), fun b hb hne => by (try simp only [hN] at hb hne); simp (disch := first | omega | (simp only [hN] <;> omega) | fail) only [go_sem, simprocAttr, hf4.old, hf3]⟩ (hp4.le (by simp (disch := first | omega | (simp only [hN] <;> omega) | fail) only [go_sem, simprocAttr]; omega) fun b hb => by simp (disch := first | omega | (simp only [hN] <;> omega) | fail) only [go_sem, simprocAttr]) (hg4.keep9 (Nat.le_refl _) (by simp (disch := first | omega | (simp only [hN] <;> omega) | fail) only [go_sem, simprocAttr]; omega) fun b _ _ _ hb1 hb2 hb3 => by
          have : b ≠ h.n := by rintro rfl; rw [q4] at hb3; cases hb3
          simp (disch := first | omega | (simp only [hN] <;> omega) | fail) only [go_sem, simprocAttr])
      · refine ⟨.nilSlice, [], ts1, 1, GKids.nil, hpH, b0, q0, by omega, hfH, by simpa using hnf, hs1, hm1, hR, ?_⟩
        simp (disch := first | omega | (simp only [hN] <;> omega) | fail) only [go_sem, simprocAttr]
  · rw [if_neg c1] at hQ ⊢
    intro h1 hf1
    have hn1 := hf1.n; try simp only [hN] at hn1
    simp (disch := first | omega | (simp only [hN] <;> omega) | fail) only [go_sem, simprocAttr]
    exact hQ _ ⟨by first | omega | (simp only [hN]; omega), fun b hb hne => by (try simp only [hN] at hb hne); simp (disch := first | omega | (simp only [hN] <;> omega) | fail) only [go_sem, simprocAttr, hf1.old]⟩
end Go.Ev
