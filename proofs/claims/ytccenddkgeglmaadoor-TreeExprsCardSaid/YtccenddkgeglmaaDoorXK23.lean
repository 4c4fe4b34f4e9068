/- The tree's reader: prim. -/
import Derived.Test.YtccenddkgeglmaaDoorXK20
set_option linter.all false
set_option linter.unusedVariables false
set_option linter.unusedSimpArgs false
namespace Go.Ev
open Go
set_option maxRecDepth 100000
set_option maxHeartbeats 4000000

@[go_sem] theorem ite_tt {α : Sort _} {a b : α} : (if true = true then a else b) = a := if_pos rfl
theorem prim_tok {E : Nat} {x : PT} (hx : PSpec 38 E x) : PSpec 121 E (primP E x) := by
  intro h r lv ts Q hp hz hQ
  refine WF.code F121 rfl ?_
  have hlt := hp.hi
  simp (disch := first | omega | (simp only [hN] <;> omega) | fail) only [go_sem, simprocAttr]
  refine here_tok (E := E) (lv := lv) (ts := ts) (hp.fr ⟨by first | omega | (simp only [hN]; omega), fun b hb hne => by (try simp only [hN] at hb hne); simp (disch := first | omega | (simp only [hN] <;> omega) | fail) only [go_sem, simprocAttr]⟩) ?_
  intro h1 hf1
  have hn1 := hf1.n; try simp only [hN] at hn1
  have q0 : h1.get h.n = some ⟨0, .cells .own 0 [.int .i64 0, .int .i64 0, .str [], .int .i64 0, .int .i64 0, .int .i64 0, .int .i64 0, .int .u64 0, .nilSlice]⟩ := by simp (disch := first | omega | (simp only [hN] <;> omega) | fail) only [go_sem, simprocAttr, hf1.old]
  have hf : ∀ b', b' < h.n → h1.get b' = h.get b' := fun b' hb' => by simp (disch := first | omega | (simp only [hN] <;> omega) | fail) only [go_sem, simprocAttr, hf1.old]
  have hp1 : PInv h1 r E ts lv := hp.fr ⟨by first | omega | (simp only [hN]; omega), fun b hb hne => by (try simp only [hN] at hb hne); simp (disch := first | omega | (simp only [hN] <;> omega) | fail) only [go_sem, simprocAttr, hf]⟩
  have hlt1 := hp1.hi
  clear hf1
  simp (disch := first | omega | (simp only [hN] <;> omega) | fail) only [go_sem, simprocAttr, tokAV]
  generalize hH : (h1.alloc (AObj.cells Md.own 0 [AV.int IntKind.i64 0, AV.str [], AV.int IntKind.i64 0, AV.int IntKind.u64 0, AV.int IntKind.i64 0])).upd h1.n 1 (AObj.cells Md.own 0 [AV.int IntKind.i64 ((hdT E ts).kind : Int), AV.str (hdT E ts).text, AV.int IntKind.i64 ((hdT E ts).n : Int), AV.int IntKind.u64 ((hdT E ts).bits : Int), AV.int IntKind.i64 ((hdT E ts).pos : Int)]) = H
  have hHn : H.n = h1.n + 1 := by rw [← hH]; simp (disch := first | omega | (simp only [hN] <;> omega) | fail) only [go_sem, simprocAttr]
  have hH1 : ∀ b', b' < h1.n → H.get b' = h1.get b' := fun b' hb' => by rw [← hH]; simp (disch := first | omega | (simp only [hN] <;> omega) | fail) only [go_sem, simprocAttr]
  have hHt : H.get h1.n = some ⟨1, .cells .own 0 [.int .i64 ((hdT E ts).kind : Int), .str (hdT E ts).text, .int .i64 ((hdT E ts).n : Int), .int .u64 ((hdT E ts).bits : Int), .int .i64 ((hdT E ts).pos : Int)]⟩ := by rw [← hH]; simp (disch := first | omega | (simp only [hN] <;> omega) | fail) only [go_sem, simprocAttr]
  have hpH : PInv H r E ts lv := hp1.fr ⟨by omega, fun b hb _ => hH1 b hb⟩
  have q0 : H.get h.n = some ⟨0, .cells .own 0 [.int .i64 0, .int .i64 0, .str [], .int .i64 0, .int .i64 0, .int .i64 0, .int .i64 0, .int .u64 0, .nilSlice]⟩ := by rw [hH1 _ (by omega)]; exact q0
  have hf : ∀ b', b' < h.n → H.get b' = h.get b' := fun b' hb' => by rw [hH1 _ (by omega), hf _ hb']
  generalize h1.n = B at *
  clear hH1 hp1 hH
  simp only [primP] at hz hQ
  by_cases k3 : (hdT E ts).kind = 3
  · rw [if_pos k3] at hz hQ
    have e3 : (((hdT E ts).kind : Int) == 3) = true := by simp [k3]
    simp (disch := first | omega | (simp only [hN] <;> omega) | fail) only [go_sem, simprocAttr, hHt, e3]
    refine take_tok (k := 3) (E := E) (lv := lv) (ts := ts) hpH (by decide) ?_
    rw [if_pos k3]
    intro h2 hf2 hp2
    have hn2 := hf2.n; try simp only [hN] at hn2
    have q2 : h2.get B = H.get B := hf2.old _ (by omega) (by omega)
    have q3 : h2.get h.n = H.get h.n := hf2.old _ (by omega) (by omega)
    simp (disch := first | omega | (simp only [hN] <;> omega) | fail) only [go_sem, simprocAttr, tokAV, q2, q3, hHt, q0]
    refine hQ _ .nilSlice ⟨by first | omega | (simp only [hN]; omega), fun b hb hne => by (try simp only [hN] at hb hne); simp (disch := first | omega | (simp only [hN] <;> omega) | fail) only [go_sem, simprocAttr, hf2.old, hf]⟩ (hp2.fr' (q := h.n) (Fr.upd _ _ _) hlt) .nil
  rw [if_neg k3] at hz hQ
  have e3 : (((hdT E ts).kind : Int) == 3) = false := by simp; omega
  by_cases k4 : (hdT E ts).kind = 4
  · rw [if_pos k4] at hz hQ
    have e4 : (((hdT E ts).kind : Int) == 4) = true := by simp [k4]
    simp (disch := first | omega | (simp only [hN] <;> omega) | fail) only [go_sem, simprocAttr, hHt, e3, e4]
    refine take_tok (k := 4) (E := E) (lv := lv) (ts := ts) hpH (by decide) ?_
    rw [if_pos k4]
    intro h2 hf2 hp2
    have hn2 := hf2.n; try simp only [hN] at hn2
    have q2 : h2.get B = H.get B := hf2.old _ (by omega) (by omega)
    have q3 : h2.get h.n = H.get h.n := hf2.old _ (by omega) (by omega)
    simp (disch := first | omega | (simp only [hN] <;> omega) | fail) only [go_sem, simprocAttr, tokAV, q2, q3, hHt, q0]
    refine hQ _ .nilSlice ⟨by first | omega | (simp only [hN]; omega), fun b hb hne => by (try simp only [hN] at hb hne); simp (disch := first | omega | (simp only [hN] <;> omega) | fail) only [go_sem, simprocAttr, hf2.old, hf]⟩ (hp2.fr' (q := h.n) (Fr.upd _ _ _) hlt) .nil
  rw [if_neg k4] at hz hQ
  have e4 : (((hdT E ts).kind : Int) == 4) = false := by simp; omega
  by_cases k1 : (hdT E ts).kind = 1
  · rw [if_pos k1] at hz hQ
    have e1 : (((hdT E ts).kind : Int) == 1) = true := by simp [k1]
    simp (disch := first | omega | (simp only [hN] <;> omega) | fail) only [go_sem, simprocAttr, hHt, e3, e4, e1]
    refine name_tok hx hpH k1 hz ?_
    cases hy : nameP E x lv ts with
    | error e =>
      obtain ⟨e, p⟩ := e
      rw [hy] at hQ
      intro h2 hf2
      have hn2 := hf2.n; try simp only [hN] at hn2
      simp (disch := first | omega | (simp only [hN] <;> omega) | fail) only [go_sem, simprocAttr]
      exact hQ _ ⟨by first | omega | (simp only [hN]; omega), fun b hb hne => by (try simp only [hN] at hb hne); simp (disch := first | omega | (simp only [hN] <;> omega) | fail) only [go_sem, simprocAttr, hf2.old, hf]⟩
    | ok y =>
      obtain ⟨k, ts2⟩ := y
      rw [hy] at hQ
      intro h2 kv hf2 hp2 hk2
      have hn2 := hf2.n; try simp only [hN] at hn2
      have q3 : h2.get h.n = H.get h.n := hf2.old _ (by omega) (by omega)
      simp (disch := first | omega | (simp only [hN] <;> omega) | fail) only [go_sem, simprocAttr, q3, q0, hk2.flat.1, hk2.flat.2]
      exact hQ _ kv ⟨by first | omega | (simp only [hN]; omega), fun b hb hne => by (try simp only [hN] at hb hne); simp (disch := first | omega | (simp only [hN] <;> omega) | fail) only [go_sem, simprocAttr, hf2.old, hf]⟩ (hp2.fr' (q := h.n) (Fr.upd _ _ _) hlt) (hk2.keep (by omega) (by simp (disch := first | omega | (simp only [hN] <;> omega) | fail) only [go_sem, simprocAttr]; omega) fun b hb1 hb2 => by simp (disch := first | omega | (simp only [hN] <;> omega) | fail) only [go_sem, simprocAttr])
  rw [if_neg k1] at hz hQ
  have e1 : (((hdT E ts).kind : Int) == 1) = false := by simp; omega
  simp (disch := first | omega | (simp only [hN] <;> omega) | fail) only [go_sem, simprocAttr, hHt, e3, e4, e1]
  refine maybe_tok (E := E) (lv := lv) (ts := ts) hpH ?_
  by_cases kt : isT [[116, 114, 117, 101]] ts = true
  · rw [if_pos kt] at hz hQ ⊢
    intro h2 hf2 hp2
    have hn2 := hf2.n; try simp only [hN] at hn2
    have q2 : h2.get B = H.get B := hf2.old _ (by omega) (by omega)
    have q3 : h2.get h.n = H.get h.n := hf2.old _ (by omega) (by omega)
    simp (disch := first | omega | (simp only [hN] <;> omega) | fail) only [go_sem, simprocAttr, q2, q3, hHt, q0]
    refine hQ _ .nilSlice ⟨by first | omega | (simp only [hN]; omega), fun b hb hne => by (try simp only [hN] at hb hne); simp (disch := first | omega | (simp only [hN] <;> omega) | fail) only [go_sem, simprocAttr, hf2.old, hf]⟩ (hp2.fr' (q := h.n) (Fr.upd _ _ _) hlt) .nil
  rw [if_neg kt] at hz hQ ⊢
  intro h2 hf2
  have hn2 := hf2.n; try simp only [hN] at hn2
  simp (disch := first | omega | (simp only [hN] <;> omega) | fail) only [go_sem, simprocAttr]
  have hp2 := hpH.fr hf2
  refine maybe_tok (E := E) (lv := lv) (ts := ts) hp2 ?_
  by_cases kf : isT [[102, 97, 108, 115, 101]] ts = true
  · rw [if_pos kf] at hz hQ ⊢
    intro h3 hf3 hp3
    have hn3 := hf3.n; try simp only [hN] at hn3
    have q2 : h3.get B = H.get B := (hf3.old _ (by omega) (by omega)).trans (hf2.old _ (by omega) (by omega))
    have q3 : h3.get h.n = H.get h.n := (hf3.old _ (by omega) (by omega)).trans (hf2.old _ (by omega) (by omega))
    simp (disch := first | omega | (simp only [hN] <;> omega) | fail) only [go_sem, simprocAttr, q2, q3, hHt, q0]
    refine hQ _ .nilSlice ⟨by first | omega | (simp only [hN]; omega), fun b hb hne => by (try simp only [hN] at hb hne); simp (disch := first | omega | (simp only [hN] <;> omega) | fail) only [go_sem, simprocAttr, hf3.old, hf2.old, hf]⟩ (hp3.fr' (q := h.n) (Fr.upd _ _ _) hlt) .nil
  rw [if_neg kf] at hz hQ ⊢
  intro h3 hf3
  have hn3 := hf3.n; try simp only [hN] at hn3
  have hp3 := hp2.fr hf3
  simp (disch := first | omega | (simp only [hN] <;> omega) | fail) only [go_sem, simprocAttr]
  refine is_tok (ws := [[105, 110, 116], [102, 108, 111, 97, 116]]) (md := .own) (ver := 0) (E := E) (ts := ts) (lv := lv) (hp3.fr ⟨by first | omega | (simp only [hN]; omega), fun b hb hne => by (try simp only [hN] at hb hne); simp (disch := first | omega | (simp only [hN] <;> omega) | fail) only [go_sem, simprocAttr]⟩) (by (first | (simp (disch := first | omega | (simp only [hN] <;> omega) | fail) only [go_sem, simprocAttr, List.map]; done) | (simp (disch := first | omega | (simp only [hN] <;> omega) | fail) only [go_sem, simprocAttr, List.map]; rfl))) (by simp (disch := first | omega | (simp only [hN] <;> omega) | fail) only [go_sem, simprocAttr]; omega) (show 2 < 2 ^ 62 by decide) ?_
  intro h4 hf4
  have hn4 := hf4.n; try simp only [hN] at hn4
  have q2 : h4.get B = H.get B := by simp (disch := first | omega | (simp only [hN] <;> omega) | fail) only [go_sem, simprocAttr, hf4.old, hf3.old, hf2.old]
  have q3 : h4.get h.n = H.get h.n := by simp (disch := first | omega | (simp only [hN] <;> omega) | fail) only [go_sem, simprocAttr, hf4.old, hf3.old, hf2.old]
  have hp4 : PInv h4 r E ts lv := hp3.fr ⟨by first | omega | (simp only [hN]; omega), fun b hb hne => by (try simp only [hN] at hb hne); simp (disch := first | omega | (simp only [hN] <;> omega) | fail) only [go_sem, simprocAttr, hf4.old]⟩
  have hf' : ∀ b', b' < h.n → h4.get b' = h.get b' := fun b' hb' => by rw [← hf b' hb']; simp (disch := first | omega | (simp only [hN] <;> omega) | fail) only [go_sem, simprocAttr, hf4.old, hf3.old, hf2.old]
  have hn : B + 1 ≤ h4.n := by omega
  rw [hHt] at q2
  rw [q0] at q3
  clear hf4 hp3 hp2 hf2 hf3 hn2 hn3 hn4 hf hpH hHt q0 hHn e3 e4 e1 kf kt
  by_cases kc : isT [[105, 110, 116], [102, 108, 111, 97, 116]] ts = true
  · rw [if_pos kc] at hz hQ
    obtain ⟨ver, v, hr, ht⟩ := hp4.st
    obtain ⟨b, o, ver2, cs, rfl, hc, hb, ht'⟩ := ht.slc (isT_ne kc)
    have hpos : 0 < ts.length := List.length_pos_iff.2 (isT_ne kc)
    have c1 : bnd (some (.int .i64 1)) 0 ts.length = some 1 := bnd_num (i := 1) (by omega)
    have c2 : ts.length.beq 0 = false := by rw [beq_nat]; exact decide_eq_false (by omega)
    simp (disch := first | omega | (simp only [hN] <;> omega) | fail) only [go_sem, simprocAttr, kc, hr, hc, c1, c2, Option.isSome_none, Bool.and_false, cond_false]
    have hp5 : PInv (h4.upd r (ver + 1) (.cells .own 0 [.slice b (o + 5) (ts.length - 1) (ts.length - 1) false, .int .i64 (E : Int), .int .i64 (lv : Int)])) r E ts.tail lv := hp4.step (ver := ver + 1) (Fr.upd _ _ _) (by simp (disch := first | omega | (simp only [hN] <;> omega) | fail) only [go_sem, simprocAttr]) ht' hp4.lvl
    have hn5 : h4.n = (h4.upd r (ver + 1) (.cells .own 0 [.slice b (o + 5) (ts.length - 1) (ts.length - 1) false, .int .i64 (E : Int), .int .i64 (lv : Int)])).n := rfl
    have hf5 : ∀ b', b' ≠ r → (h4.upd r (ver + 1) (.cells .own 0 [.slice b (o + 5) (ts.length - 1) (ts.length - 1) false, .int .i64 (E : Int), .int .i64 (lv : Int)])).get b' = h4.get b' := fun b' hb' => by rw [AHeap.get_upd, if_neg hb']
    generalize h4.upd r (ver + 1) (.cells .own 0 [.slice b (o + 5) (ts.length - 1) (ts.length - 1) false, .int .i64 (E : Int), .int .i64 (lv : Int)]) = h5 at *
    simp only [inP] at hz hQ
    refine open_tok hp5 ?_
    by_cases hh : isT [[40]] ts.tail = true
    · rw [if_pos hh] at hz hQ ⊢
      by_cases h16 : lv = 16
      · rw [if_pos h16] at hQ ⊢
        intro h6 hf6
        have hn6 := hf6.n; try simp only [hN] at hn6
        simp (disch := first | omega | (simp only [hN] <;> omega) | fail) only [go_sem, simprocAttr]
        exact hQ _ ⟨by first | omega | (simp only [hN]; omega), fun b hb hne => by (try simp only [hN] at hb hne); simp (disch := first | omega | (simp only [hN] <;> omega) | fail) only [go_sem, simprocAttr, hf6.old, hf5, hf']⟩
      · rw [if_neg h16] at hQ hz ⊢
        intro h6 hf6 hp6
        have hn6 := hf6.n; try simp only [hN] at hn6
        have q6 : h6.get B = h4.get B := by simp (disch := first | omega | (simp only [hN] <;> omega) | fail) only [go_sem, simprocAttr, hf6.old, hf5]
        rw [q2] at q6
        have d1 : decide (B = h6.n) = false := decide_eq_false (by omega)
        simp (disch := first | omega | (simp only [hN] <;> omega) | fail) only [go_sem, simprocAttr, tokAV, q6, d1]
        refine hx (hp6.fr (h' := h6.alloc (.cells .own 0 [.int .i64 0, .int .i64 0, .str [], .int .i64 0, .int .i64 0, .int .i64 0, .int .i64 0, .int .u64 0, .nilSlice])) ⟨by first | omega | (simp only [hN]; omega), fun b hb hne => by (try simp only [hN] at hb hne); simp (disch := first | omega | (simp only [hN] <;> omega) | fail) only [go_sem, simprocAttr]⟩) ?_ ?_
        · intro e; rw [e] at hz; exact hz rfl
        cases hxx : x (lv + 1) ts.tail.tail with
        | error e =>
          obtain ⟨e, p⟩ := e
          rw [hxx] at hQ
          intro h7 hf7
          have hn7 := hf7.n; try simp only [hN] at hn7
          have q7 : h7.get B = h6.get B := by simp (disch := first | omega | (simp only [hN] <;> omega) | fail) only [go_sem, simprocAttr, hf7.old]
          have q8 : h7.get h6.n = some ⟨0, .cells .own 0 [.int .i64 0, .int .i64 0, .str [], .int .i64 0, .int .i64 0, .int .i64 0, .int .i64 0, .int .u64 0, .nilSlice]⟩ := by simp (disch := first | omega | (simp only [hN] <;> omega) | fail) only [go_sem, simprocAttr, hf7.old]
          simp (disch := first | omega | (simp only [hN] <;> omega) | fail) only [go_sem, simprocAttr, q7, q8, q6]
          exact hQ _ ⟨by first | omega | (simp only [hN]; omega), fun b hb hne => by (try simp only [hN] at hb hne); simp (disch := first | omega | (simp only [hN] <;> omega) | fail) only [go_sem, simprocAttr, hf7.old, hf6.old, hf5, hf']⟩
        | ok y =>
          obtain ⟨k, ts2⟩ := y
          rw [hxx] at hQ hz
          intro h7 kv hf7 hp7 hk7
          have hn7 := hf7.n; try simp only [hN] at hn7
          have q7 : h7.get B = h6.get B := by simp (disch := first | omega | (simp only [hN] <;> omega) | fail) only [go_sem, simprocAttr, hf7.old]
          have q8 : h7.get h6.n = some ⟨0, .cells .own 0 [.int .i64 0, .int .i64 0, .str [], .int .i64 0, .int .i64 0, .int .i64 0, .int .i64 0, .int .u64 0, .nilSlice]⟩ := by simp (disch := first | omega | (simp only [hN] <;> omega) | fail) only [go_sem, simprocAttr, hf7.old]
          simp (disch := first | omega | (simp only [hN] <;> omega) | fail) only [go_sem, simprocAttr, q7, q8, q6, hk7.flat.1, hk7.flat.2]
          refine close_tok (E := E) (lv := lv) (ts := ts2) ((hp7.fr (h' := h7.alloc (.cells .own 9 (ndC k kv))) ⟨by first | omega | (simp only [hN]; omega), fun b hb hne => by (try simp only [hN] at hb hne); simp (disch := first | omega | (simp only [hN] <;> omega) | fail) only [go_sem, simprocAttr]⟩).fr' (q := h6.n) (Fr.upd _ _ _) (by omega)) ?_
          simp only at hQ
          by_cases hb : isT [[41]] ts2 = true
          · rw [if_pos hb] at hQ ⊢
            intro h8 hf8 hp8
            have hn8 := hf8.n; try simp only [hN] at hn8
            have q9 : h8.get h.n = h4.get h.n := by simp (disch := first | omega | (simp only [hN] <;> omega) | fail) only [go_sem, simprocAttr, hf8.old, hf7.old, hf6.old, hf5]
            rw [q3] at q9
            have q10 : h8.get h6.n = some ⟨1, .cells .own 0 [.int .i64 30, .int .i64 ((hdT E ts).pos : Int), .str (hdT E ts).text, .int .i64 0, .int .i64 0, .int .i64 0, .int .i64 0, .int .u64 0, .slice h7.n 0 1 1 true]⟩ := by simp (disch := first | omega | (simp only [hN] <;> omega) | fail) only [go_sem, simprocAttr, hf8.old]
            simp (disch := first | omega | (simp only [hN] <;> omega) | fail) only [go_sem, simprocAttr, q9, q10]
            refine hQ _ _ ⟨by first | omega | (simp only [hN]; omega), fun b hb hne => by (try simp only [hN] at hb hne); simp (disch := first | omega | (simp only [hN] <;> omega) | fail) only [go_sem, simprocAttr, hf8.old, hf7.old, hf6.old, hf5, hf']⟩ (hp8.fr' (q := h.n) (Fr.upd _ _ _) hlt) ?_
            refine KidsR.one (ver := 0) (kv := kv) (hk7.keep (by simp only [AHeap.alloc_n]; omega) (by simp only [AHeap.alloc_n, AHeap.upd_n]; omega) fun b hb1 hb2 => by simp only [AHeap.alloc_n] at hb1; simp (disch := first | omega | (simp only [hN] <;> omega) | fail) only [go_sem, simprocAttr, hf8.old]) (by omega) (by simp (disch := first | omega | (simp only [hN] <;> omega) | fail) only [go_sem, simprocAttr]; omega) (by simp (disch := first | omega | (simp only [hN] <;> omega) | fail) only [go_sem, simprocAttr, hf8.old])
          · rw [if_neg hb] at hQ ⊢
            intro h8 hf8
            have hn8 := hf8.n; try simp only [hN] at hn8
            simp (disch := first | omega | (simp only [hN] <;> omega) | fail) only [go_sem, simprocAttr]
            exact hQ _ ⟨by first | omega | (simp only [hN]; omega), fun b hb hne => by (try simp only [hN] at hb hne); simp (disch := first | omega | (simp only [hN] <;> omega) | fail) only [go_sem, simprocAttr, hf8.old, hf7.old, hf6.old, hf5, hf']⟩
    · rw [if_neg hh] at hz hQ ⊢
      intro h6 hf6
      have hn6 := hf6.n; try simp only [hN] at hn6
      simp (disch := first | omega | (simp only [hN] <;> omega) | fail) only [go_sem, simprocAttr]
      exact hQ _ ⟨by first | omega | (simp only [hN]; omega), fun b hb hne => by (try simp only [hN] at hb hne); simp (disch := first | omega | (simp only [hN] <;> omega) | fail) only [go_sem, simprocAttr, hf6.old, hf5, hf']⟩
  · rw [if_neg kc] at hz hQ
    have hh' : isT [[105, 110, 116], [102, 108, 111, 97, 116]] ts = false := by simpa using kc
    simp (disch := first | omega | (simp only [hN] <;> omega) | fail) only [go_sem, simprocAttr, hh']
    simp only [inP] at hz hQ
    refine open_tok hp4 ?_
    by_cases hh : isT [[40]] ts = true
    · rw [if_pos hh] at hz hQ ⊢
      by_cases h16 : lv = 16
      · rw [if_pos h16] at hQ ⊢
        intro h6 hf6
        have hn6 := hf6.n; try simp only [hN] at hn6
        simp (disch := first | omega | (simp only [hN] <;> omega) | fail) only [go_sem, simprocAttr]
        exact hQ _ ⟨by first | omega | (simp only [hN]; omega), fun b hb hne => by (try simp only [hN] at hb hne); simp (disch := first | omega | (simp only [hN] <;> omega) | fail) only [go_sem, simprocAttr, hf6.old, hf']⟩
      · rw [if_neg h16] at hQ hz ⊢
        intro h6 hf6 hp6
        have hn6 := hf6.n; try simp only [hN] at hn6
        simp (disch := first | omega | (simp only [hN] <;> omega) | fail) only [go_sem, simprocAttr, tokAV]
        refine hx hp6 ?_ ?_
        · intro e; rw [e] at hz; exact hz rfl
        cases hxx : x (lv + 1) ts.tail with
        | error e =>
          obtain ⟨e, p⟩ := e
          rw [hxx] at hQ
          intro h7 hf7
          have hn7 := hf7.n; try simp only [hN] at hn7
          simp (disch := first | omega | (simp only [hN] <;> omega) | fail) only [go_sem, simprocAttr]
          exact hQ _ ⟨by first | omega | (simp only [hN]; omega), fun b hb hne => by (try simp only [hN] at hb hne); simp (disch := first | omega | (simp only [hN] <;> omega) | fail) only [go_sem, simprocAttr, hf7.old, hf6.old, hf']⟩
        | ok y =>
          obtain ⟨k, ts2⟩ := y
          rw [hxx] at hQ hz
          intro h7 kv hf7 hp7 hk7
          have hn7 := hf7.n; try simp only [hN] at hn7
          simp (disch := first | omega | (simp only [hN] <;> omega) | fail) only [go_sem, simprocAttr, hk7.flat.1, hk7.flat.2]
          refine close_tok (E := E) (lv := lv) (ts := ts2) (hp7.fr ⟨by first | omega | (simp only [hN]; omega), fun b hb hne => by (try simp only [hN] at hb hne); simp (disch := first | omega | (simp only [hN] <;> omega) | fail) only [go_sem, simprocAttr]⟩) ?_
          simp only at hQ
          by_cases hb : isT [[41]] ts2 = true
          · rw [if_pos hb] at hQ ⊢
            intro h8 hf8 hp8
            have hn8 := hf8.n; try simp only [hN] at hn8
            have q9 : h8.get h.n = h4.get h.n := by simp (disch := first | omega | (simp only [hN] <;> omega) | fail) only [go_sem, simprocAttr, hf8.old, hf7.old, hf6.old]
            rw [q3] at q9
            have q10 : h8.get h7.n = some ⟨1, .cells .own 0 (ndC k kv)⟩ := by simp (disch := first | omega | (simp only [hN] <;> omega) | fail) only [go_sem, simprocAttr, hf8.old]
            simp (disch := first | omega | (simp only [hN] <;> omega) | fail) only [go_sem, simprocAttr, q9, q10, hk7.flat.1, hk7.flat.2]
            exact hQ _ kv ⟨by first | omega | (simp only [hN]; omega), fun b hb hne => by (try simp only [hN] at hb hne); simp (disch := first | omega | (simp only [hN] <;> omega) | fail) only [go_sem, simprocAttr, hf8.old, hf7.old, hf6.old, hf']⟩ (hp8.fr' (q := h.n) (Fr.upd _ _ _) hlt) (hk7.keep (by omega) (by simp (disch := first | omega | (simp only [hN] <;> omega) | fail) only [go_sem, simprocAttr]; omega) fun b hb1 hb2 => by simp (disch := first | omega | (simp only [hN] <;> omega) | fail) only [go_sem, simprocAttr, hf8.old])
          · rw [if_neg hb] at hQ ⊢
            intro h8 hf8
            have hn8 := hf8.n; try simp only [hN] at hn8
            simp (disch := first | omega | (simp only [hN] <;> omega) | fail) only [go_sem, simprocAttr]
            exact hQ _ ⟨by first | omega | (simp only [hN]; omega), fun b hb hne => by (try simp only [hN] at hb hne); simp (disch := first | omega | (simp only [hN] <;> omega) | fail) only [go_sem, simprocAttr, hf8.old, hf7.old, hf6.old, hf']⟩
    · rw [if_neg hh] at hz hQ ⊢
      intro h6 hf6
      have hn6 := hf6.n; try simp only [hN] at hn6
      simp (disch := first | omega | (simp only [hN] <;> omega) | fail) only [go_sem, simprocAttr]
      exact hQ _ ⟨by first | omega | (simp only [hN]; omega), fun b hb hne => by (try simp only [hN] at hb hne); simp (disch := first | omega | (simp only [hN] <;> omega) | fail) only [go_sem, simprocAttr, hf6.old, hf']⟩
end Go.Ev
/- The tree's reader: rows of operators. -/
namespace Go.Ev
open Go
set_option maxRecDepth 100000
set_option maxHeartbeats 4000000

theorem hdT_text {E : Nat} {ts : List Tok} (h : ts ≠ []) : hdT E ts = hdT 0 ts := by cases ts; exact absurd rfl h; rfl
theorem row_tok {fid E : Nat} {u : PT} (hu : PSpec fid E u) {many : Bool} {ops : List Bs} {h : AHeap} {r lv b ver cap : Nat} {ex : Bool} {ts : List Tok} {Q : QR} (hp : PInv h r E ts lv) (hb : h.get b = some ⟨ver, .cells .own 1 (ops.map .str)⟩) (hbn : b < h.n) (hbr : b ≠ r) (hl : ops.length < 2 ^ 62) (hz : rowP many ops u lv ts ≠ .error (0, 0)) (hQ : PQ h r E lv Q (rowP many ops u lv ts)) : WF F 65 [.ptr r 0, .func (.func fid) [.ptr r 0] [], .bool many, .slice b 0 ops.length cap ex] h Q := by
  refine WF.code F65 rfl ?_
  have hlt := hp.hi
  simp (disch := first | omega | (simp only [hN] <;> omega) | fail) only [go_sem, simprocAttr, List.append_nil]
  unfold rowP at hz hQ
  refine hu (hp.fr (h' := h.alloc (.cells .own 0 [.int .i64 0, .int .i64 0, .str [], .int .i64 0, .int .i64 0, .int .i64 0, .int .i64 0, .int .u64 0, .nilSlice])) ⟨by first | omega | (simp only [hN]; omega), fun b hb hne => by (try simp only [hN] at hb hne); simp (disch := first | omega | (simp only [hN] <;> omega) | fail) only [go_sem, simprocAttr]⟩) ?_ ?_
  · intro e; rw [e] at hz; exact hz rfl
  cases hx : u lv ts with
  | error e =>
    obtain ⟨e, p⟩ := e
    rw [hx] at hQ
    intro h1 hf1
    have hn1 := hf1.n; try simp only [hN] at hn1
    simp (disch := first | omega | (simp only [hN] <;> omega) | fail) only [go_sem, simprocAttr]
    exact hQ _ ⟨by first | omega | (simp only [hN]; omega), fun b hb hne => by (try simp only [hN] at hb hne); simp (disch := first | omega | (simp only [hN] <;> omega) | fail) only [go_sem, simprocAttr, hf1.old]⟩
  | ok y =>
    obtain ⟨n, ts1⟩ := y
    rw [hx] at hQ hz
    simp only at hQ hz
    intro h1 kv hf1 hp1 hk1
    have hn1 := hf1.n; try simp only [hN] at hn1
    have q0 : h1.get h.n = some ⟨0, .cells .own 0 [.int .i64 0, .int .i64 0, .str [], .int .i64 0, .int .i64 0, .int .i64 0, .int .i64 0, .int .u64 0, .nilSlice]⟩ := by simp (disch := first | omega | (simp only [hN] <;> omega) | fail) only [go_sem, simprocAttr, hf1.old]
    have qb : h1.get b = some ⟨ver, .cells .own 1 (ops.map .str)⟩ := by rw [hf1.old _ (by simp (disch := first | omega | (simp only [hN] <;> omega) | fail) only [go_sem, simprocAttr]; omega) hbr, AHeap.get_alloc, if_neg (by omega)]; exact hb
    have hf : ∀ b', b' < h.n → b' ≠ r → h1.get b' = h.get b' := fun b' hb' hr' => by simp (disch := first | omega | (simp only [hN] <;> omega) | fail) only [go_sem, simprocAttr, hf1.old]
    have hk1 : KidsR (h.n + 1) h1 n.kids kv := hk1.keep (Nat.le_refl _) (Nat.le_refl _) fun _ _ _ => rfl
    clear hf1
    simp (disch := first | omega | (simp only [hN] <;> omega) | fail) only [go_sem, simprocAttr, hk1.flat.1, hk1.flat.2]
    generalize hfu : ts1.length + 1 = fu at hz hQ
    clear hfu
    refine wp_loop (fun f a h' => ∃ nd ts2 kv2 v2, rowL u many ops lv f nd ts2 = rowL u many ops lv fu n ts1 ∧ h'.get h1.n = some ⟨v2, .cells .own 0 (ndC nd kv2)⟩ ∧ PInv h' r E ts2 lv ∧ KidsR (h.n + 1) h' nd.kids kv2 ∧ h1.n + 1 ≤ h'.n ∧ (∀ b', b' < h1.n → b' ≠ r → h'.get b' = h1.get b') ∧ a.tm.get 0 = some (.ptr r 0) ∧ a.tm.get 1 = some (.func (.func fid) [.ptr r 0] []) ∧ a.tm.get 2 = some (.bool many) ∧ a.tm.get 3 = some (.slice b 0 ops.length cap ex) ∧ a.tm.get 8 = some (.ptr h.n 0) ∧ a.tm.get 9 = some (.ptr h1.n 0) ∧ a.df = []) ?_ fu ?_
    · rintro f ⟨t, df⟩ h2 ⟨nd, ts2, kv2, v2, hR, q9, hp2, hk2, hn2, hf2, k0, k1, k2, k3, k8, k9, hdf⟩
      simp only at k0 k1 k2 k3 k8 k9 hdf
      subst hdf
      have hlt1 := hp1.hi
      have qb2 : h2.get b = some ⟨ver, .cells .own 1 (ops.map .str)⟩ := by rw [hf2 _ (by omega) hbr]; exact qb
      have q02 : h2.get h.n = some ⟨0, .cells .own 0 [.int .i64 0, .int .i64 0, .str [], .int .i64 0, .int .i64 0, .int .i64 0, .int .i64 0, .int .u64 0, .nilSlice]⟩ := by rw [hf2 _ (by omega) (by omega)]; exact q0
      cases f with
      | zero => rw [← hR] at hz; exact absurd rfl hz
      | succ f =>
        rw [← hR] at hz hQ
        rw [rowL] at hR hz hQ
        simp (disch := first | omega | (simp only [hN] <;> omega) | fail) only [go_sem, simprocAttr, k0, k1, k2, k3, k8, k9]
        refine is_tok (md := .own) (ver := ver) hp2 qb2 (by omega) hl ?_
        intro h3 hf3
        have hn3 := hf3.n; try simp only [hN] at hn3
        have hp3 := hp2.fr hf3
        have q93 : h3.get h1.n = some ⟨v2, .cells .own 0 (ndC nd kv2)⟩ := by rw [hf3.old _ (by omega) (by omega)]; exact q9
        by_cases hi : isT ops ts2 = true
        · rw [if_pos hi] at hz hQ hR
          simp (disch := first | omega | (simp only [hN] <;> omega) | fail) only [go_sem, simprocAttr, hi, k0, k1, k2, k3, k8, k9]
          refine here_tok (E := E) (lv := lv) (ts := ts2) hp3 ?_
          intro h4 hf4
          have hn4 := hf4.n; try simp only [hN] at hn4
          have hp4 := hp3.fr hf4
          have q94 : h4.get h1.n = some ⟨v2, .cells .own 0 (ndC nd kv2)⟩ := by rw [hf4.old _ (by omega) (by omega)]; exact q93
          obtain ⟨vr, v, hr, ht⟩ := hp4.st
          obtain ⟨c, o, vc, cs, rfl, hc, hcr, ht'⟩ := ht.slc (isT_ne hi)
          have hpos : 0 < ts2.length := List.length_pos_iff.2 (isT_ne hi)
          have c1 : bnd (some (.int .i64 1)) 0 ts2.length = some 1 := bnd_num (i := 1) (by omega)
          have c2 : ts2.length.beq 0 = false := by rw [beq_nat]; exact decide_eq_false (by omega)
          have g1 : (h1.n = r) = False := by simp; omega
          simp (disch := first | omega | (simp only [hN] <;> omega) | fail) only [go_sem, simprocAttr, tokAV, k0, k1, k2, k3, k8, k9, hr, hc, c1, c2, q94, Option.isSome_none, Bool.and_false, cond_false, List.append_nil]
          have hE : (hdT E ts2).text = (hdT 0 ts2).text := congrArg Tok.text (hdT_text (isT_ne hi))
          rw [hE]
          have hp5 : PInv (h4.upd r (vr + 1) (.cells .own 0 [.slice c (o + 5) (ts2.length - 1) (ts2.length - 1) false, .int .i64 (E : Int), .int .i64 (lv : Int)])) r E ts2.tail lv := hp4.step (ver := vr + 1) (Fr.upd _ _ _) (by simp (disch := first | omega | (simp only [hN] <;> omega) | fail) only [go_sem, simprocAttr]) ht' hp4.lvl
          have q04 : h4.get h.n = some ⟨0, .cells .own 0 [.int .i64 0, .int .i64 0, .str [], .int .i64 0, .int .i64 0, .int .i64 0, .int .i64 0, .int .u64 0, .nilSlice]⟩ := by rw [hf4.old _ (by omega) (by omega), hf3.old _ (by omega) (by omega)]; exact q02
          have hf4' : ∀ b', b' < h1.n → b' ≠ r → h4.get b' = h1.get b' := fun b' hb' hr' => by rw [hf4.old _ (by omega) (by omega), hf3.old _ (by omega) (by omega)]; exact hf2 _ hb' hr'
          have hk4 : KidsR (h.n + 1) h4 nd.kids kv2 := hk2.keep (Nat.le_refl _) (by omega) fun b' hb1 hb2 => by rw [hf4.old _ (by omega) (by omega), hf3.old _ (by omega) (by omega)]
          have hn4' : h1.n + 1 ≤ h4.n := by omega
          have hlt4 := hp4.hi
          clear hf4 hf3 hf2 q02 q93 q9 hp3 hp2 hk2 hn2 hn3 hn4 qb2 hr hc ht ht' hp4 hE
          refine hu hp5 ?_ ?_
          · intro e; rw [e] at hz; exact hz rfl
          cases hxx : u lv ts2.tail with
          | error e =>
            obtain ⟨e, p⟩ := e
            rw [hxx] at hQ
            intro h5 hf5
            have hn5 := hf5.n; try simp only [hN] at hn5
            have q95 : h5.get h1.n = some ⟨v2, .cells .own 0 (ndC nd kv2)⟩ := by rw [hf5.old _ (by simp (disch := first | omega | (simp only [hN] <;> omega) | fail) only [go_sem, simprocAttr]; omega) (by omega), AHeap.get_upd, if_neg (by omega)]; exact q94
            simp (disch := first | omega | (simp only [hN] <;> omega) | fail) only [go_sem, simprocAttr, q94, q95]
            exact hQ _ ⟨by first | omega | (simp only [hN]; omega), fun b hb hne => by (try simp only [hN] at hb hne); simp (disch := first | omega | (simp only [hN] <;> omega) | fail) only [go_sem, simprocAttr, hf5.old, hf4', hf]⟩
          | ok y =>
            obtain ⟨k, ts3⟩ := y
            rw [hxx] at hQ hz hR
            simp only at hQ hz hR
            intro h5 kv3 hf5 hp6 hk5
            have hn5 := hf5.n; try simp only [hN] at hn5
            have q95 : h5.get h1.n = some ⟨v2, .cells .own 0 (ndC nd kv2)⟩ := by rw [hf5.old _ (by simp (disch := first | omega | (simp only [hN] <;> omega) | fail) only [go_sem, simprocAttr]; omega) (by omega), AHeap.get_upd, if_neg (by omega)]; exact q94
            have q05 : h5.get h.n = some ⟨0, .cells .own 0 [.int .i64 0, .int .i64 0, .str [], .int .i64 0, .int .i64 0, .int .i64 0, .int .i64 0, .int .u64 0, .nilSlice]⟩ := by rw [hf5.old _ (by simp (disch := first | omega | (simp only [hN] <;> omega) | fail) only [go_sem, simprocAttr]; omega) (by omega), AHeap.get_upd, if_neg (by omega)]; exact q04
            simp (disch := first | omega | (simp only [hN] <;> omega) | fail) only [go_sem, simprocAttr, q94, q95, hk4.flat.1, hk4.flat.2, hk5.flat.1, hk5.flat.2, k0, k1, k2, k3, k8, k9]
            have hk6 : ∀ v3, KidsR (h.n + 1) ((h5.alloc (.cells .own 9 (ndC nd kv2 ++ ndC k kv3))).upd h1.n v3 (.cells .own 0 [.int .i64 31, .int .i64 nd.pos, .str (hdT 0 ts2).text, .int .i64 0, .int .i64 0, .int .i64 0, .int .i64 0, .int .u64 0, .slice h5.n 0 2 2 true])) [nd, k] (.slice h5.n 0 2 2 true) := by
              intro v3
              refine KidsR.two (ver := 0) (kv := kv2) (mv := kv3) (hk4.keep9 (Nat.le_refl _) (by simp (disch := first | omega | (simp only [hN] <;> omega) | fail) only [go_sem, simprocAttr]; omega) fun b' _ _ _ hb1 hb2 hb3 => ?_) (hk5.keep9 (by simp (disch := first | omega | (simp only [hN] <;> omega) | fail) only [go_sem, simprocAttr]; omega) (by simp (disch := first | omega | (simp only [hN] <;> omega) | fail) only [go_sem, simprocAttr]; omega) fun b' _ _ _ hb1 hb2 hb3 => ?_) (by omega) (by simp (disch := first | omega | (simp only [hN] <;> omega) | fail) only [go_sem, simprocAttr]; omega) (by simp (disch := first | omega | (simp only [hN] <;> omega) | fail) only [go_sem, simprocAttr])
              · by_cases hb9 : b' = h1.n
                · subst hb9; rw [q94] at hb3; cases hb3
                · rw [AHeap.get_upd, if_neg hb9, AHeap.get_alloc, if_neg (by omega), hf5.old _ (by simp (disch := first | omega | (simp only [hN] <;> omega) | fail) only [go_sem, simprocAttr]; omega) (by omega), AHeap.get_upd, if_neg (by omega)]
              · by_cases hb9 : b' = h1.n
                · subst hb9; rw [q95] at hb3; cases hb3
                · rw [AHeap.get_upd, if_neg hb9, AHeap.get_alloc, if_neg (by omega)]
            cases many with
            | true =>
              simp (disch := first | omega | (simp only [hN] <;> omega) | fail) only [go_sem, simprocAttr, k0, k1, k2, k3, k8, k9]
              refine ⟨f, Nat.lt_succ_self _, binN nd (hdT 0 ts2).text k, ts3, _, _, hR, rfl, (hp6.fr (h' := h5.alloc (.cells .own 9 (ndC nd kv2 ++ ndC k kv3))) ⟨by first | omega | (simp only [hN]; omega), fun b hb hne => by (try simp only [hN] at hb hne); simp (disch := first | omega | (simp only [hN] <;> omega) | fail) only [go_sem, simprocAttr]⟩).fr' (q := h1.n) (Fr.upd _ _ _) (by omega), hk6 _, by omega, fun b' hb1 hb2 => by simp (disch := first | omega | (simp only [hN] <;> omega) | fail) only [go_sem, simprocAttr, hf5.old, hf4']⟩
            | false =>
              simp (disch := first | omega | (simp only [hN] <;> omega) | fail) only [go_sem, simprocAttr, k0, k1, k2, k3, k8, k9, q05]
              refine hQ _ _ ⟨by first | omega | (simp only [hN]; omega), fun b hb hne => by (try simp only [hN] at hb hne); simp (disch := first | omega | (simp only [hN] <;> omega) | fail) only [go_sem, simprocAttr, hf5.old, hf4', hf]⟩ (((hp6.fr (h' := h5.alloc (.cells .own 9 (ndC nd kv2 ++ ndC k kv3))) ⟨by first | omega | (simp only [hN]; omega), fun b hb hne => by (try simp only [hN] at hb hne); simp (disch := first | omega | (simp only [hN] <;> omega) | fail) only [go_sem, simprocAttr]⟩).fr' (q := h1.n) (Fr.upd _ _ _) (by omega)).fr' (q := h.n) (Fr.upd _ _ _) hlt) ((hk6 (v2 + 1)).keep (by omega) (by simp (disch := first | omega | (simp only [hN] <;> omega) | fail) only [go_sem, simprocAttr]; exact Nat.le_refl _) fun b' hb1 hb2 => ?_)
              rw [AHeap.get_upd, if_neg (by omega)]
              rfl
        · rw [if_neg hi] at hz hQ
          have hi' : isT ops ts2 = false := by simpa using hi
          have q03 : h3.get h.n = some ⟨0, .cells .own 0 [.int .i64 0, .int .i64 0, .str [], .int .i64 0, .int .i64 0, .int .i64 0, .int .i64 0, .int .u64 0, .nilSlice]⟩ := by rw [hf3.old _ (by omega) (by omega)]; exact q02
          simp (disch := first | omega | (simp only [hN] <;> omega) | fail) only [go_sem, simprocAttr, hi', k0, k1, k2, k3, k8, k9, q93, q03, hk2.flat.1, hk2.flat.2]
          exact hQ _ kv2 ⟨by first | omega | (simp only [hN]; omega), fun b hb hne => by (try simp only [hN] at hb hne); simp (disch := first | omega | (simp only [hN] <;> omega) | fail) only [go_sem, simprocAttr, hf3.old, hf2, hf]⟩ (hp3.fr' (q := h.n) (Fr.upd _ _ _) hlt) (hk2.keep (by omega) (by simp (disch := first | omega | (simp only [hN] <;> omega) | fail) only [go_sem, simprocAttr]; omega) fun b' hb1 hb2 => by simp (disch := first | omega | (simp only [hN] <;> omega) | fail) only [go_sem, simprocAttr, hf3.old])
    · refine ⟨n, ts1, kv, 1, rfl, by simp (disch := first | omega | (simp only [hN] <;> omega) | fail) only [go_sem, simprocAttr], hp1.fr ⟨by first | omega | (simp only [hN]; omega), fun b hb hne => by (try simp only [hN] at hb hne); simp (disch := first | omega | (simp only [hN] <;> omega) | fail) only [go_sem, simprocAttr]⟩, hk1.keep (Nat.le_refl _) (by simp (disch := first | omega | (simp only [hN] <;> omega) | fail) only [go_sem, simprocAttr]; omega) fun b' hb1 hb2 => by simp (disch := first | omega | (simp only [hN] <;> omega) | fail) only [go_sem, simprocAttr], by simp (disch := first | omega | (simp only [hN] <;> omega) | fail) only [go_sem, simprocAttr]; omega, fun b' hb1 hb2 => by simp (disch := first | omega | (simp only [hN] <;> omega) | fail) only [go_sem, simprocAttr], ?_⟩
      simp (disch := first | omega | (simp only [hN] <;> omega) | fail) only [go_sem, simprocAttr]
end Go.Ev
/- The tree's reader: expressions. -/
namespace Go.Ev
open Go
set_option maxRecDepth 100000
set_option maxHeartbeats 4000000

theorem prod_tok {E : Nat} {u : PT} (hu : PSpec 119 E u) : PSpec 113 E (rowP true [[42], [47], [37]] u) := by
  intro h r lv ts Q hp hz hQ
  refine WF.code F113 rfl ?_
  have hlt := hp.hi
  simp (disch := first | omega | (simp only [hN] <;> omega) | fail) only [go_sem, simprocAttr, List.map]
  refine row_tok (ops := [[42], [47], [37]]) (ver := 0) hu (hp.fr (h' := (h.alloc (.cells .own 0 [.int .i64 0, .int .i64 0, .str [], .int .i64 0, .int .i64 0, .int .i64 0, .int .i64 0, .int .u64 0, .nilSlice])).alloc (.cells .own 1 (List.map .str [[42], [47], [37]]))) ⟨by first | omega | (simp only [hN]; omega), fun b hb hne => by (try simp only [hN] at hb hne); simp (disch := first | omega | (simp only [hN] <;> omega) | fail) only [go_sem, simprocAttr]⟩) (by (first | (simp (disch := first | omega | (simp only [hN] <;> omega) | fail) only [go_sem, simprocAttr, List.map]; done) | (simp (disch := first | omega | (simp only [hN] <;> omega) | fail) only [go_sem, simprocAttr, List.map]; rfl))) (by simp (disch := first | omega | (simp only [hN] <;> omega) | fail) only [go_sem, simprocAttr]; omega) (by omega) (show 3 < 2 ^ 62 by decide) hz ?_
  cases hy : rowP true [[42], [47], [37]] u lv ts with
  | error e =>
    obtain ⟨e, p⟩ := e
    rw [hy] at hQ
    intro h2 hf2
    have hn2 := hf2.n; try simp only [hN] at hn2
    simp (disch := first | omega | (simp only [hN] <;> omega) | fail) only [go_sem, simprocAttr]
    exact hQ _ ⟨by first | omega | (simp only [hN]; omega), fun b hb hne => by (try simp only [hN] at hb hne); simp (disch := first | omega | (simp only [hN] <;> omega) | fail) only [go_sem, simprocAttr, hf2.old]⟩
  | ok y =>
    obtain ⟨k, ts2⟩ := y
    rw [hy] at hQ
    intro h2 kv hf2 hp2 hk2
    have hn2 := hf2.n; try simp only [hN] at hn2
    have q3 : h2.get h.n = some ⟨0, .cells .own 0 [.int .i64 0, .int .i64 0, .str [], .int .i64 0, .int .i64 0, .int .i64 0, .int .i64 0, .int .u64 0, .nilSlice]⟩ := by simp (disch := first | omega | (simp only [hN] <;> omega) | fail) only [go_sem, simprocAttr, hf2.old]
    simp (disch := first | omega | (simp only [hN] <;> omega) | fail) only [go_sem, simprocAttr, q3, hk2.flat.1, hk2.flat.2]
    exact hQ _ kv ⟨by first | omega | (simp only [hN]; omega), fun b hb hne => by (try simp only [hN] at hb hne); simp (disch := first | omega | (simp only [hN] <;> omega) | fail) only [go_sem, simprocAttr, hf2.old]⟩ (hp2.fr' (q := h.n) (Fr.upd _ _ _) hlt) (hk2.keep (by simp (disch := first | omega | (simp only [hN] <;> omega) | fail) only [go_sem, simprocAttr]; omega) (by simp (disch := first | omega | (simp only [hN] <;> omega) | fail) only [go_sem, simprocAttr]; exact Nat.le_refl _) fun b hb1 hb2 => by simp only [AHeap.alloc_n] at hb1; simp (disch := first | omega | (simp only [hN] <;> omega) | fail) only [go_sem, simprocAttr])

theorem sum_tok {E : Nat} {u : PT} (hu : PSpec 113 E u) : PSpec 106 E (rowP true [[43], [45]] u) := by
  intro h r lv ts Q hp hz hQ
  refine WF.code F106 rfl ?_
  have hlt := hp.hi
  simp (disch := first | omega | (simp only [hN] <;> omega) | fail) only [go_sem, simprocAttr, List.map]
  refine row_tok (ops := [[43], [45]]) (ver := 0) hu (hp.fr (h' := (h.alloc (.cells .own 0 [.int .i64 0, .int .i64 0, .str [], .int .i64 0, .int .i64 0, .int .i64 0, .int .i64 0, .int .u64 0, .nilSlice])).alloc (.cells .own 1 (List.map .str [[43], [45]]))) ⟨by first | omega | (simp only [hN]; omega), fun b hb hne => by (try simp only [hN] at hb hne); simp (disch := first | omega | (simp only [hN] <;> omega) | fail) only [go_sem, simprocAttr]⟩) (by (first | (simp (disch := first | omega | (simp only [hN] <;> omega) | fail) only [go_sem, simprocAttr, List.map]; done) | (simp (disch := first | omega | (simp only [hN] <;> omega) | fail) only [go_sem, simprocAttr, List.map]; rfl))) (by simp (disch := first | omega | (simp only [hN] <;> omega) | fail) only [go_sem, simprocAttr]; omega) (by omega) (show 2 < 2 ^ 62 by decide) hz ?_
  cases hy : rowP true [[43], [45]] u lv ts with
  | error e =>
    obtain ⟨e, p⟩ := e
    rw [hy] at hQ
    intro h2 hf2
    have hn2 := hf2.n; try simp only [hN] at hn2
    simp (disch := first | omega | (simp only [hN] <;> omega) | fail) only [go_sem, simprocAttr]
    exact hQ _ ⟨by first | omega | (simp only [hN]; omega), fun b hb hne => by (try simp only [hN] at hb hne); simp (disch := first | omega | (simp only [hN] <;> omega) | fail) only [go_sem, simprocAttr, hf2.old]⟩
  | ok y =>
    obtain ⟨k, ts2⟩ := y
    rw [hy] at hQ
    intro h2 kv hf2 hp2 hk2
    have hn2 := hf2.n; try simp only [hN] at hn2
    have q3 : h2.get h.n = some ⟨0, .cells .own 0 [.int .i64 0, .int .i64 0, .str [], .int .i64 0, .int .i64 0, .int .i64 0, .int .i64 0, .int .u64 0, .nilSlice]⟩ := by simp (disch := first | omega | (simp only [hN] <;> omega) | fail) only [go_sem, simprocAttr, hf2.old]
    simp (disch := first | omega | (simp only [hN] <;> omega) | fail) only [go_sem, simprocAttr, q3, hk2.flat.1, hk2.flat.2]
    exact hQ _ kv ⟨by first | omega | (simp only [hN]; omega), fun b hb hne => by (try simp only [hN] at hb hne); simp (disch := first | omega | (simp only [hN] <;> omega) | fail) only [go_sem, simprocAttr, hf2.old]⟩ (hp2.fr' (q := h.n) (Fr.upd _ _ _) hlt) (hk2.keep (by simp (disch := first | omega | (simp only [hN] <;> omega) | fail) only [go_sem, simprocAttr]; omega) (by simp (disch := first | omega | (simp only [hN] <;> omega) | fail) only [go_sem, simprocAttr]; exact Nat.le_refl _) fun b hb1 hb2 => by simp only [AHeap.alloc_n] at hb1; simp (disch := first | omega | (simp only [hN] <;> omega) | fail) only [go_sem, simprocAttr])

theorem cmp_tok {E : Nat} {u : PT} (hu : PSpec 106 E u) : PSpec 90 E (rowP false [[61, 61], [33, 61], [60], [60, 61], [62], [62, 61]] u) := by
  intro h r lv ts Q hp hz hQ
  refine WF.code F90 rfl ?_
  have hlt := hp.hi
  simp (disch := first | omega | (simp only [hN] <;> omega) | fail) only [go_sem, simprocAttr, List.map]
  refine row_tok (ops := [[61, 61], [33, 61], [60], [60, 61], [62], [62, 61]]) (ver := 0) hu (hp.fr (h' := (h.alloc (.cells .own 0 [.int .i64 0, .int .i64 0, .str [], .int .i64 0, .int .i64 0, .int .i64 0, .int .i64 0, .int .u64 0, .nilSlice])).alloc (.cells .own 1 (List.map .str [[61, 61], [33, 61], [60], [60, 61], [62], [62, 61]]))) ⟨by first | omega | (simp only [hN]; omega), fun b hb hne => by (try simp only [hN] at hb hne); simp (disch := first | omega | (simp only [hN] <;> omega) | fail) only [go_sem, simprocAttr]⟩) (by (first | (simp (disch := first | omega | (simp only [hN] <;> omega) | fail) only [go_sem, simprocAttr, List.map]; done) | (simp (disch := first | omega | (simp only [hN] <;> omega) | fail) only [go_sem, simprocAttr, List.map]; rfl))) (by simp (disch := first | omega | (simp only [hN] <;> omega) | fail) only [go_sem, simprocAttr]; omega) (by omega) (show 6 < 2 ^ 62 by decide) hz ?_
  cases hy : rowP false [[61, 61], [33, 61], [60], [60, 61], [62], [62, 61]] u lv ts with
  | error e =>
    obtain ⟨e, p⟩ := e
    rw [hy] at hQ
    intro h2 hf2
    have hn2 := hf2.n; try simp only [hN] at hn2
    simp (disch := first | omega | (simp only [hN] <;> omega) | fail) only [go_sem, simprocAttr]
    exact hQ _ ⟨by first | omega | (simp only [hN]; omega), fun b hb hne => by (try simp only [hN] at hb hne); simp (disch := first | omega | (simp only [hN] <;> omega) | fail) only [go_sem, simprocAttr, hf2.old]⟩
  | ok y =>
    obtain ⟨k, ts2⟩ := y
    rw [hy] at hQ
    intro h2 kv hf2 hp2 hk2
    have hn2 := hf2.n; try simp only [hN] at hn2
    have q3 : h2.get h.n = some ⟨0, .cells .own 0 [.int .i64 0, .int .i64 0, .str [], .int .i64 0, .int .i64 0, .int .i64 0, .int .i64 0, .int .u64 0, .nilSlice]⟩ := by simp (disch := first | omega | (simp only [hN] <;> omega) | fail) only [go_sem, simprocAttr, hf2.old]
    simp (disch := first | omega | (simp only [hN] <;> omega) | fail) only [go_sem, simprocAttr, q3, hk2.flat.1, hk2.flat.2]
    exact hQ _ kv ⟨by first | omega | (simp only [hN]; omega), fun b hb hne => by (try simp only [hN] at hb hne); simp (disch := first | omega | (simp only [hN] <;> omega) | fail) only [go_sem, simprocAttr, hf2.old]⟩ (hp2.fr' (q := h.n) (Fr.upd _ _ _) hlt) (hk2.keep (by simp (disch := first | omega | (simp only [hN] <;> omega) | fail) only [go_sem, simprocAttr]; omega) (by simp (disch := first | omega | (simp only [hN] <;> omega) | fail) only [go_sem, simprocAttr]; exact Nat.le_refl _) fun b hb1 hb2 => by simp only [AHeap.alloc_n] at hb1; simp (disch := first | omega | (simp only [hN] <;> omega) | fail) only [go_sem, simprocAttr])

theorem and_tok {E : Nat} {u : PT} (hu : PSpec 90 E u) : PSpec 66 E (rowP true [[38, 38]] u) := by
  intro h r lv ts Q hp hz hQ
  refine WF.code F66 rfl ?_
  have hlt := hp.hi
  simp (disch := first | omega | (simp only [hN] <;> omega) | fail) only [go_sem, simprocAttr, List.map]
  refine row_tok (ops := [[38, 38]]) (ver := 0) hu (hp.fr (h' := (h.alloc (.cells .own 0 [.int .i64 0, .int .i64 0, .str [], .int .i64 0, .int .i64 0, .int .i64 0, .int .i64 0, .int .u64 0, .nilSlice])).alloc (.cells .own 1 (List.map .str [[38, 38]]))) ⟨by first | omega | (simp only [hN]; omega), fun b hb hne => by (try simp only [hN] at hb hne); simp (disch := first | omega | (simp only [hN] <;> omega) | fail) only [go_sem, simprocAttr]⟩) (by (first | (simp (disch := first | omega | (simp only [hN] <;> omega) | fail) only [go_sem, simprocAttr, List.map]; done) | (simp (disch := first | omega | (simp only [hN] <;> omega) | fail) only [go_sem, simprocAttr, List.map]; rfl))) (by simp (disch := first | omega | (simp only [hN] <;> omega) | fail) only [go_sem, simprocAttr]; omega) (by omega) (show 1 < 2 ^ 62 by decide) hz ?_
  cases hy : rowP true [[38, 38]] u lv ts with
  | error e =>
    obtain ⟨e, p⟩ := e
    rw [hy] at hQ
    intro h2 hf2
    have hn2 := hf2.n; try simp only [hN] at hn2
    simp (disch := first | omega | (simp only [hN] <;> omega) | fail) only [go_sem, simprocAttr]
    exact hQ _ ⟨by first | omega | (simp only [hN]; omega), fun b hb hne => by (try simp only [hN] at hb hne); simp (disch := first | omega | (simp only [hN] <;> omega) | fail) only [go_sem, simprocAttr, hf2.old]⟩
  | ok y =>
    obtain ⟨k, ts2⟩ := y
    rw [hy] at hQ
    intro h2 kv hf2 hp2 hk2
    have hn2 := hf2.n; try simp only [hN] at hn2
    have q3 : h2.get h.n = some ⟨0, .cells .own 0 [.int .i64 0, .int .i64 0, .str [], .int .i64 0, .int .i64 0, .int .i64 0, .int .i64 0, .int .u64 0, .nilSlice]⟩ := by simp (disch := first | omega | (simp only [hN] <;> omega) | fail) only [go_sem, simprocAttr, hf2.old]
    simp (disch := first | omega | (simp only [hN] <;> omega) | fail) only [go_sem, simprocAttr, q3, hk2.flat.1, hk2.flat.2]
    exact hQ _ kv ⟨by first | omega | (simp only [hN]; omega), fun b hb hne => by (try simp only [hN] at hb hne); simp (disch := first | omega | (simp only [hN] <;> omega) | fail) only [go_sem, simprocAttr, hf2.old]⟩ (hp2.fr' (q := h.n) (Fr.upd _ _ _) hlt) (hk2.keep (by simp (disch := first | omega | (simp only [hN] <;> omega) | fail) only [go_sem, simprocAttr]; omega) (by simp (disch := first | omega | (simp only [hN] <;> omega) | fail) only [go_sem, simprocAttr]; exact Nat.le_refl _) fun b hb1 hb2 => by simp only [AHeap.alloc_n] at hb1; simp (disch := first | omega | (simp only [hN] <;> omega) | fail) only [go_sem, simprocAttr])

theorem expr_tok {E : Nat} {u : PT} (hu : PSpec 66 E u) : PSpec 38 E (rowP true [[124, 124]] u) := by
  intro h r lv ts Q hp hz hQ
  refine WF.code F38 rfl ?_
  have hlt := hp.hi
  simp (disch := first | omega | (simp only [hN] <;> omega) | fail) only [go_sem, simprocAttr, List.map]
  refine row_tok (ops := [[124, 124]]) (ver := 0) hu (hp.fr (h' := (h.alloc (.cells .own 0 [.int .i64 0, .int .i64 0, .str [], .int .i64 0, .int .i64 0, .int .i64 0, .int .i64 0, .int .u64 0, .nilSlice])).alloc (.cells .own 1 (List.map .str [[124, 124]]))) ⟨by first | omega | (simp only [hN]; omega), fun b hb hne => by (try simp only [hN] at hb hne); simp (disch := first | omega | (simp only [hN] <;> omega) | fail) only [go_sem, simprocAttr]⟩) (by (first | (simp (disch := first | omega | (simp only [hN] <;> omega) | fail) only [go_sem, simprocAttr, List.map]; done) | (simp (disch := first | omega | (simp only [hN] <;> omega) | fail) only [go_sem, simprocAttr, List.map]; rfl))) (by simp (disch := first | omega | (simp only [hN] <;> omega) | fail) only [go_sem, simprocAttr]; omega) (by omega) (show 1 < 2 ^ 62 by decide) hz ?_
  cases hy : rowP true [[124, 124]] u lv ts with
  | error e =>
    obtain ⟨e, p⟩ := e
    rw [hy] at hQ
    intro h2 hf2
    have hn2 := hf2.n; try simp only [hN] at hn2
    simp (disch := first | omega | (simp only [hN] <;> omega) | fail) only [go_sem, simprocAttr]
    exact hQ _ ⟨by first | omega | (simp only [hN]; omega), fun b hb hne => by (try simp only [hN] at hb hne); simp (disch := first | omega | (simp only [hN] <;> omega) | fail) only [go_sem, simprocAttr, hf2.old]⟩
  | ok y =>
    obtain ⟨k, ts2⟩ := y
    rw [hy] at hQ
    intro h2 kv hf2 hp2 hk2
    have hn2 := hf2.n; try simp only [hN] at hn2
    have q3 : h2.get h.n = some ⟨0, .cells .own 0 [.int .i64 0, .int .i64 0, .str [], .int .i64 0, .int .i64 0, .int .i64 0, .int .i64 0, .int .u64 0, .nilSlice]⟩ := by simp (disch := first | omega | (simp only [hN] <;> omega) | fail) only [go_sem, simprocAttr, hf2.old]
    simp (disch := first | omega | (simp only [hN] <;> omega) | fail) only [go_sem, simprocAttr, q3, hk2.flat.1, hk2.flat.2]
    exact hQ _ kv ⟨by first | omega | (simp only [hN]; omega), fun b hb hne => by (try simp only [hN] at hb hne); simp (disch := first | omega | (simp only [hN] <;> omega) | fail) only [go_sem, simprocAttr, hf2.old]⟩ (hp2.fr' (q := h.n) (Fr.upd _ _ _) hlt) (hk2.keep (by simp (disch := first | omega | (simp only [hN] <;> omega) | fail) only [go_sem, simprocAttr]; omega) (by simp (disch := first | omega | (simp only [hN] <;> omega) | fail) only [go_sem, simprocAttr]; exact Nat.le_refl _) fun b hb1 hb2 => by simp only [AHeap.alloc_n] at hb1; simp (disch := first | omega | (simp only [hN] <;> omega) | fail) only [go_sem, simprocAttr])

theorem exprOf_tok {E : Nat} {u : PT} (hu : PSpec 119 E u) : PSpec 38 E (exprOf u) := expr_tok (and_tok (cmp_tok (sum_tok (prod_tok hu))))

theorem unary_tok {E : Nat} (f : Nat) : PSpec 119 E (unP E f) := by
  induction f with
  | zero => intro h r lv ts Q hp hz hQ; exact absurd rfl hz
  | succ f unary_ih =>
    intro h r lv ts Q hp hz hQ
    refine WF.code F119 rfl ?_
    have hlt := hp.hi
    simp (disch := first | omega | (simp only [hN] <;> omega) | fail) only [go_sem, simprocAttr]
    rw [unP] at hz hQ
    refine is_tok (ws := [[45], [33]]) (md := .own) (ver := 0) (E := E) (ts := ts) (lv := lv) (hp.fr ⟨by first | omega | (simp only [hN]; omega), fun b hb hne => by (try simp only [hN] at hb hne); simp (disch := first | omega | (simp only [hN] <;> omega) | fail) only [go_sem, simprocAttr]⟩) (by (first | (simp (disch := first | omega | (simp only [hN] <;> omega) | fail) only [go_sem, simprocAttr, List.map]; done) | (simp (disch := first | omega | (simp only [hN] <;> omega) | fail) only [go_sem, simprocAttr, List.map]; rfl))) (by simp (disch := first | omega | (simp only [hN] <;> omega) | fail) only [go_sem, simprocAttr]; omega) (show 2 < 2 ^ 62 by decide) ?_
    intro h1 hf1
    have hn1 := hf1.n; try simp only [hN] at hn1
    have hf : ∀ b', b' < h.n → h1.get b' = h.get b' := fun b' hb' => by simp (disch := first | omega | (simp only [hN] <;> omega) | fail) only [go_sem, simprocAttr, hf1.old]
    have q0 : h1.get h.n = some ⟨0, .cells .own 0 [.int .i64 0, .int .i64 0, .str [], .int .i64 0, .int .i64 0, .int .i64 0, .int .i64 0, .int .u64 0, .nilSlice]⟩ := by simp (disch := first | omega | (simp only [hN] <;> omega) | fail) only [go_sem, simprocAttr, hf1.old]
    have hp1 : PInv h1 r E ts lv := hp.fr ⟨by first | omega | (simp only [hN]; omega), fun b hb hne => by (try simp only [hN] at hb hne); simp (disch := first | omega | (simp only [hN] <;> omega) | fail) only [go_sem, simprocAttr, hf]⟩
    clear hf1
    by_cases hi : isT [[45], [33]] ts = true
    · rw [if_pos hi] at hz hQ
      simp (disch := first | omega | (simp only [hN] <;> omega) | fail) only [go_sem, simprocAttr, hi]
      refine here_tok (E := E) (lv := lv) (ts := ts) hp1 ?_
      intro h2 hf2
      have hn2 := hf2.n; try simp only [hN] at hn2
      have hp2 := hp1.fr hf2
      simp (disch := first | omega | (simp only [hN] <;> omega) | fail) only [go_sem, simprocAttr, tokAV]
      refine open_tok hp2 ?_
      have hop : isT [(hdT E ts).text] ts = true := by
        cases ts with
        | nil => exact absurd rfl (isT_ne hi)
        | cons t ts =>
          simp only [isT, Bool.and_eq_true] at hi ⊢
          exact ⟨hi.1, by simp [hdT]⟩
      rw [if_pos hop]
      by_cases h16 : lv = 16
      · rw [if_pos h16] at hQ ⊢
        intro h6 hf6
        have hn6 := hf6.n; try simp only [hN] at hn6
        simp (disch := first | omega | (simp only [hN] <;> omega) | fail) only [go_sem, simprocAttr]
        exact hQ _ ⟨by first | omega | (simp only [hN]; omega), fun b hb hne => by (try simp only [hN] at hb hne); simp (disch := first | omega | (simp only [hN] <;> omega) | fail) only [go_sem, simprocAttr, hf6.old, hf2.old, hf]⟩
      · rw [if_neg h16] at hQ hz ⊢
        intro h6 hf6 hp6
        have hn6 := hf6.n; try simp only [hN] at hn6
        have hlt6 := hp6.hi
        have d1 : decide (h6.n = h6.n + 1) = false := decide_eq_false (by omega)
        simp (disch := first | omega | (simp only [hN] <;> omega) | fail) only [go_sem, simprocAttr, tokAV, d1]
        generalize hG : ((h6.alloc (.cells .own 0 [.int .i64 0, .str [], .int .i64 0, .int .u64 0, .int .i64 0])).upd h6.n 1 (.cells .own 0 [.int .i64 ((hdT E ts).kind : Int), .str (hdT E ts).text, .int .i64 ((hdT E ts).n : Int), .int .u64 ((hdT E ts).bits : Int), .int .i64 ((hdT E ts).pos : Int)])).alloc (.cells .own 0 [.int .i64 0, .int .i64 0, .str [], .int .i64 0, .int .i64 0, .int .i64 0, .int .i64 0, .int .u64 0, .nilSlice]) = G
        have hGn : G.n = h6.n + 2 := by rw [← hG]; simp (disch := first | omega | (simp only [hN] <;> omega) | fail) only [go_sem, simprocAttr]
        have hG1 : ∀ b', b' < h6.n → G.get b' = h6.get b' := fun b' hb' => by rw [← hG]; simp (disch := first | omega | (simp only [hN] <;> omega) | fail) only [go_sem, simprocAttr]
        have hGt : G.get h6.n = some ⟨1, .cells .own 0 [.int .i64 ((hdT E ts).kind : Int), .str (hdT E ts).text, .int .i64 ((hdT E ts).n : Int), .int .u64 ((hdT E ts).bits : Int), .int .i64 ((hdT E ts).pos : Int)]⟩ := by rw [← hG]; simp (disch := first | omega | (simp only [hN] <;> omega) | fail) only [go_sem, simprocAttr]
        have hGz : G.get (h6.n + 1) = some ⟨0, .cells .own 0 [.int .i64 0, .int .i64 0, .str [], .int .i64 0, .int .i64 0, .int .i64 0, .int .i64 0, .int .u64 0, .nilSlice]⟩ := by rw [← hG]; simp (disch := first | omega | (simp only [hN] <;> omega) | fail) only [go_sem, simprocAttr]
        have hpG : PInv G r E ts.tail (lv + 1) := hp6.fr ⟨by omega, fun b hb _ => hG1 b hb⟩
        have q6 : h6.get h.n = some ⟨0, .cells .own 0 [.int .i64 0, .int .i64 0, .str [], .int .i64 0, .int .i64 0, .int .i64 0, .int .i64 0, .int .u64 0, .nilSlice]⟩ := by rw [hf6.old _ (by omega) (by omega), hf2.old _ (by omega) (by omega)]; exact q0
        have hf' : ∀ b', b' < h.n → b' ≠ r → G.get b' = h.get b' := fun b' hb' hr' => by rw [hG1 _ (by omega), hf6.old _ (by omega) hr', hf2.old _ (by omega) (by omega)]; exact hf _ hb'
        have hlv := hp6.lvl
        clear hf6 hf2 hf hG hp6 hp2 hp1 hop hi q0
        refine unary_ih hpG ?_ ?_
        · intro e; rw [e] at hz; exact hz rfl
        cases hxx : unP E f (lv + 1) ts.tail with
        | error e =>
          obtain ⟨e, p⟩ := e
          rw [hxx] at hQ
          intro h7 hf7
          have hn7 := hf7.n; try simp only [hN] at hn7
          have q7 : h7.get h6.n = G.get h6.n := hf7.old _ (by omega) (by omega)
          have q8 : h7.get (h6.n + 1) = G.get (h6.n + 1) := hf7.old _ (by omega) (by omega)
          simp (disch := first | omega | (simp only [hN] <;> omega) | fail) only [go_sem, simprocAttr, q7, q8, hGt, hGz]
          exact hQ _ ⟨by first | omega | (simp only [hN]; omega), fun b hb hne => by (try simp only [hN] at hb hne); simp (disch := first | omega | (simp only [hN] <;> omega) | fail) only [go_sem, simprocAttr, hf7.old, hf']⟩
        | ok y =>
          obtain ⟨k, ts2⟩ := y
          rw [hxx] at hQ hz
          intro h7 kv hf7 hp7 hk7
          have hn7 := hf7.n; try simp only [hN] at hn7
          have q7 : h7.get h6.n = G.get h6.n := hf7.old _ (by omega) (by omega)
          have q8 : h7.get (h6.n + 1) = G.get (h6.n + 1) := hf7.old _ (by omega) (by omega)
          have q9 : h7.get h.n = h6.get h.n := by rw [hf7.old _ (by omega) (by omega)]; exact hG1 _ (by omega)
          obtain ⟨vr, v, hr, ht⟩ := hp7.st
          have hlt7 := hp7.hi
          have ep : (((lv + 1 : Nat) : Int) - 1) = (lv : Int) := by omega
          have g1 : (h6.n + 1 = r) = False := by simp; omega
          have g2 : (h.n = r) = False := by simp; omega
          rw [q6] at q9
          rw [hGt] at q7
          rw [hGz] at q8
          simp (disch := first | omega | (simp only [hN] <;> omega) | fail) only [go_sem, simprocAttr, q7, q8, q9, hGt, hGz, hk7.flat.1, hk7.flat.2, hr, ep]
          have hpa := (hp7.fr (h' := h7.alloc (.cells .own 9 (ndC k kv))) ⟨by first | omega | (simp only [hN]; omega), fun b hb hne => by (try simp only [hN] at hb hne); simp (disch := first | omega | (simp only [hN] <;> omega) | fail) only [go_sem, simprocAttr]⟩).fr' (q := h6.n + 1) (Fr.upd _ 1 (.cells .own 0 [.int .i64 30, .int .i64 ((hdT E ts).pos : Int), .str (hdT E ts).text, .int .i64 0, .int .i64 0, .int .i64 0, .int .i64 0, .int .u64 0, .slice h7.n 0 1 1 true])) (by omega)
          have hpb := hpa.step (lv' := lv) (ver := vr + 1) (v := v) (ts' := ts2) (Fr.upd _ (vr + 1) (.cells .own 0 [v, .int .i64 (E : Int), .int .i64 (lv : Int)])) (by simp (disch := first | omega | (simp only [hN] <;> omega) | fail) only [go_sem, simprocAttr]) (ht.fr (q := h6.n + 1) (⟨by first | omega | (simp only [hN]; omega), fun b hb hne => by (try simp only [hN] at hb hne); simp (disch := first | omega | (simp only [hN] <;> omega) | fail) only [go_sem, simprocAttr]⟩ : Fr (h6.n + 1) h7 _) hlt7 (by omega)) (by omega)
          refine hQ _ _ ⟨by first | omega | (simp only [hN]; omega), fun b hb hne => by (try simp only [hN] at hb hne); simp (disch := first | omega | (simp only [hN] <;> omega) | fail) only [go_sem, simprocAttr, hf7.old, hf']⟩ (hpb.fr' (q := h.n) (Fr.upd _ _ _) hlt) ?_
          exact KidsR.one (ver := 0) (kv := kv) (hk7.keep (by omega) (by simp (disch := first | omega | (simp only [hN] <;> omega) | fail) only [go_sem, simprocAttr]; omega) fun b hb1 hb2 => by simp (disch := first | omega | (simp only [hN] <;> omega) | fail) only [go_sem, simprocAttr]) (by omega) (by simp (disch := first | omega | (simp only [hN] <;> omega) | fail) only [go_sem, simprocAttr]; omega) (by simp (disch := first | omega | (simp only [hN] <;> omega) | fail) only [go_sem, simprocAttr])
    · rw [if_neg hi] at hz hQ
      have hi' : isT [[45], [33]] ts = false := by simpa using hi
      simp (disch := first | omega | (simp only [hN] <;> omega) | fail) only [go_sem, simprocAttr, hi']
      refine prim_tok (exprOf_tok unary_ih) hp1 hz ?_
      cases hy : primP E (exprOf (unP E f)) lv ts with
      | error e =>
        obtain ⟨e, p⟩ := e
        rw [hy] at hQ
        intro h2 hf2
        have hn2 := hf2.n; try simp only [hN] at hn2
        simp (disch := first | omega | (simp only [hN] <;> omega) | fail) only [go_sem, simprocAttr]
        exact hQ _ ⟨by first | omega | (simp only [hN]; omega), fun b hb hne => by (try simp only [hN] at hb hne); simp (disch := first | omega | (simp only [hN] <;> omega) | fail) only [go_sem, simprocAttr, hf2.old, hf]⟩
      | ok y =>
        obtain ⟨k, ts2⟩ := y
        rw [hy] at hQ
        intro h2 kv hf2 hp2 hk2
        have hn2 := hf2.n; try simp only [hN] at hn2
        have q3 : h2.get h.n = some ⟨0, .cells .own 0 [.int .i64 0, .int .i64 0, .str [], .int .i64 0, .int .i64 0, .int .i64 0, .int .i64 0, .int .u64 0, .nilSlice]⟩ := by rw [hf2.old _ (by omega) (by omega)]; exact q0
        simp (disch := first | omega | (simp only [hN] <;> omega) | fail) only [go_sem, simprocAttr, q3, hk2.flat.1, hk2.flat.2]
        exact hQ _ kv ⟨by first | omega | (simp only [hN]; omega), fun b hb hne => by (try simp only [hN] at hb hne); simp (disch := first | omega | (simp only [hN] <;> omega) | fail) only [go_sem, simprocAttr, hf2.old, hf]⟩ (hp2.fr' (q := h.n) (Fr.upd _ _ _) hlt) (hk2.keep (by omega) (by simp (disch := first | omega | (simp only [hN] <;> omega) | fail) only [go_sem, simprocAttr]; exact Nat.le_refl _) fun b hb1 hb2 => by simp (disch := first | omega | (simp only [hN] <;> omega) | fail) only [go_sem, simprocAttr])
end Go.Ev
/- The tree's reader: a whole text. -/
namespace Go.Ev
open Go
set_option maxRecDepth 100000
set_option maxHeartbeats 4000000

def zN : List AV := [.int .i64 0, .int .i64 0, .str [], .int .i64 0, .int .i64 0, .int .i64 0, .int .i64 0, .int .u64 0, .nilSlice]
attribute [go_sem] zN
theorem trecover_ret {o b : Nat} {h : AHeap} {Q : AHeap → Prop} (hQ : Q h) : WDef F 63 [.ptr o 0, .ptr b 0] .ret h Q := by
  refine WDef.code F63 rfl ?_
  simp (disch := first | omega | (simp only [hN] <;> omega) | fail) only [go_sem, simprocAttr, eqT, eqK]
  exact hQ
theorem trecover_stop {o b e p v1 v2 : Nat} {h : AHeap} {n : Nd} {kv x2 x3 : AV} {Q : AHeap → Prop} (ho : h.get o = some ⟨v1, .cells .own 0 (ndC n kv)⟩) (hb : h.get b = some ⟨v2, .cells .own 0 [x2, x3]⟩) (hob : o ≠ b) (hon : o < h.n) (hbn : b < h.n)
    (hQ : ∀ h', h.n ≤ h'.n → (∀ c, c < h.n → c ≠ o → c ≠ b → h'.get c = h.get c) → (∃ v, h'.get o = some ⟨v, .cells .own 0 zN⟩) → (∃ v, h'.get b = some ⟨v, .cells .own 0 [errAV e, .int .i64 (p : Int)]⟩) → Q h') :
    WDef F 63 [.ptr o 0, .ptr b 0] (.pan (.iface 95 (.agg [errAV e, .int .i64 (p : Int)]))) h Q := by
  refine WDef.code F63 rfl ?_
  have d1 : decide (h.n = o) = false := decide_eq_false (by omega)
  simp (disch := first | omega | (simp only [hN] <;> omega) | fail) only [go_sem, simprocAttr, eqT, eqK, Nat.beq_refl, List.getElem?_cons_zero, ho, hb, d1]
  exact hQ _ (by simp only [AHeap.alloc_n, AHeap.upd_n]; omega) (fun c hc h1 h2 => by simp (disch := first | omega | (simp only [hN] <;> omega) | fail) only [go_sem, simprocAttr]) ⟨v1 + 1, by simp (disch := first | omega | (simp only [hN] <;> omega) | fail) only [go_sem, simprocAttr]⟩ ⟨v2 + 1, by simp (disch := first | omega | (simp only [hN] <;> omega) | fail) only [go_sem, simprocAttr]⟩

theorem PInv.loc {h : AHeap} {r E lv q v0 v1 : Nat} {ts : List Tok} {cs : List AV} {o : AObj} (p : PInv h r E ts lv) (hq : 18 + 17 ≤ q) (hqr : q ≠ r) (hg : h.get q = some ⟨v0, .cells .own 0 cs⟩) : PInv (h.upd q v1 o) r E ts lv := by
  obtain ⟨ver, v, h1, h2⟩ := p.st
  refine ⟨p.gh.upd hq _ _, p.lo, p.hi, p.lvl, ver, v, by rw [AHeap.get_upd, if_neg (Ne.symm hqr)]; exact h1, ?_⟩
  rcases h2 with h2 | ⟨b, vb, k, all, e1, e2, e3, e4⟩
  · exact .inl h2
  · refine .inr ⟨b, vb, k, all, e1, e2, ?_, e4⟩
    rw [AHeap.get_upd, if_neg (by rintro rfl; rw [hg] at e3; cases e3)]
    exact e3

def ReadQ (h : AHeap) (Q : QR) : Except Err Nd → Prop
  | .error (e, p) => ∀ h', Fr h.n h h' → Q (.ret (.tuple [.agg zN, .agg [errAV e, .int .i64 (p : Int)]])) h'
  | .ok n => ∀ h' kv, Fr h.n h h' → KidsR h.n h' n.kids kv → Q (.ret (.tuple [.agg (ndC n kv), .agg [.nilIface, .int .i64 0]])) h'

theorem read_tok {fid : Nat} {p : Nat → Nat → PT} (hP : ∀ E f, PSpec fid E (p E f)) (hF : ∀ E f, Fine f (p E (f + 1))) {s : Bs} (hlen : s.length < 2 ^ 62) {h : AHeap} (hG : GH h) {Q : QR} (hQ : ReadQ h Q (readP p s)) : WF F 37 [.str s, .func (.func fid) [] []] h Q := by
  refine WF.code F37 rfl ?_
  simp (disch := first | omega | (simp only [hN] <;> omega) | fail) only [go_sem, simprocAttr]
  refine tokens_spec ((hG.alloc _).alloc _) hlen ?_
  unfold readP at hQ
  cases hts : tokens s with
  | error x =>
    obtain ⟨e, q⟩ := x
    rw [hts] at hQ
    intro h1 hf1
    have hn1 := hf1.n; try simp only [hN] at hn1
    have d1 : decide (h.n + 1 = h.n) = false := decide_eq_false (by omega)
    simp (disch := first | omega | (simp only [hN] <;> omega) | fail) only [go_sem, simprocAttr, hf1.old, d1]
    refine hQ _ ?_
    exact ⟨by first | omega | (simp only [hN]; omega), fun b hb hne => by (try simp only [hN] at hb hne); simp (disch := first | omega | (simp only [hN] <;> omega) | fail) only [go_sem, simprocAttr, hf1.old]⟩
  | ok ts =>
    rw [hts] at hQ
    simp only at hQ
    intro h1 v1 hf1 hts1
    have hn1 := hf1.n; try simp only [hN] at hn1
    have hG1 : GH h1 := hf1.gh (by have := hG.n; simp (disch := first | omega | (simp only [hN] <;> omega) | fail) only [go_sem, simprocAttr]; omega) ((hG.alloc _).alloc _)
    simp (disch := first | omega | (simp only [hN] <;> omega) | fail) only [go_sem, simprocAttr, hf1.old, eqT_nil, hts1.flat.1, hts1.flat.2]
    have hf : ∀ b', b' < h.n → h1.get b' = h.get b' := fun b' hb' => by simp (disch := first | omega | (simp only [hN] <;> omega) | fail) only [go_sem, simprocAttr, hf1.old]
    have q4 : h1.get h.n = some ⟨0, .cells .own 0 zN⟩ := by simp (disch := first | omega | (simp only [hN] <;> omega) | fail) only [go_sem, simprocAttr, hf1.old]
    have ht0 : TokR h1 h1.n ts v1 := by
      obtain ⟨_, ⟨h0, rfl⟩ | ⟨hpos, b, ver, rfl, hb1, hb2, hb3⟩⟩ := hts1
      · exact .inl ⟨List.length_eq_zero_iff.1 h0, rfl⟩
      · exact .inr ⟨b, ver, 0, ts, by simp, hb2, hb3, rfl⟩
    generalize hH : ((h1.upd (h.n + 1) 1 (.cells .own 0 [.nilIface, .int .i64 0])).alloc (.cells .own 0 [v1, .int .i64 (s.length : Int), .int .i64 0])) = H
    have hHn : H.n = h1.n + 1 := by rw [← hH]; simp (disch := first | omega | (simp only [hN] <;> omega) | fail) only [go_sem, simprocAttr]
    have hH1 : ∀ b', b' < h1.n → b' ≠ h.n + 1 → H.get b' = h1.get b' := fun b' hb' hn' => by rw [← hH]; simp (disch := first | omega | (simp only [hN] <;> omega) | fail) only [go_sem, simprocAttr]
    have hH5 : H.get (h.n + 1) = some ⟨1, .cells .own 0 [.nilIface, .int .i64 0]⟩ := by rw [← hH]; simp (disch := first | omega | (simp only [hN] <;> omega) | fail) only [go_sem, simprocAttr]
    have hHr : H.get h1.n = some ⟨0, .cells .own 0 [v1, .int .i64 (s.length : Int), .int .i64 0]⟩ := by rw [← hH]; simp (disch := first | omega | (simp only [hN] <;> omega) | fail) only [go_sem, simprocAttr]
    have ht : TokR H h1.n ts v1 := by
      obtain ⟨_, ⟨h0, rfl⟩ | ⟨hpos, b, ver, rfl, hb1, hb2, hb3⟩⟩ := hts1
      · exact .inl ⟨List.length_eq_zero_iff.1 h0, rfl⟩
      · simp only [AHeap.alloc_n] at hb1
        exact .inr ⟨b, ver, 0, ts, by simp, hb2, by rw [hH1 _ hb2 (by omega)]; exact hb3, rfl⟩
    have hn0 := hG.n
    have hGH : GH H := (show Fr (h.n + 1) h1 H from ⟨by omega, fun b hb hne => hH1 b hb hne⟩).gh (by omega) hG1
    have hpH : PInv H h1.n s.length ts 0 := ⟨hGH, by omega, by omega, by omega, 0, v1, hHr, ht⟩
    have q4 : H.get h.n = some ⟨0, .cells .own 0 zN⟩ := by rw [hH1 _ (by omega) (by omega)]; exact q4
    have hf : ∀ b', b' < h.n → H.get b' = h.get b' := fun b' hb' => by rw [hH1 _ (by omega) (by omega)]; exact hf _ hb'
    generalize h1.n = r at *
    clear hH hH1 hHr ht ht0 hG1 hf1 hts1 hGH
    have hfine := hF s.length ts.length 0 ts (Nat.le_refl _)
    simp only [List.nil_append, List.append_nil]
    refine hP s.length (ts.length + 1) hpH ?_ ?_
    · intro e; rw [e] at hfine; rcases hfine with h | h <;> exact absurd h (by decide)
    cases hx : p s.length (ts.length + 1) 0 ts with
    | error x =>
      obtain ⟨e, q⟩ := x
      rw [hx] at hQ
      intro h2 hf2
      have hn2 := hf2.n; try simp only [hN] at hn2
      have q42 : h2.get h.n = some ⟨0, .cells .own 0 zN⟩ := by rw [hf2.old _ (by omega) (by omega)]; exact q4
      have q52 : h2.get (h.n + 1) = some ⟨1, .cells .own 0 [.nilIface, .int .i64 0]⟩ := by rw [hf2.old _ (by omega) (by omega)]; exact hH5
      simp (disch := first | omega | (simp only [hN] <;> omega) | fail) only [go_sem, simprocAttr, List.append_nil, List.nil_append]
      refine trecover_stop (n := .mk 0 0 [] 0 0 0 0 0 []) q42 q52 (by omega) (by omega) (by omega) ?_
      rintro h3 hn3 hf3 ⟨v3, q43⟩ ⟨v4, q53⟩
      simp (disch := first | omega | (simp only [hN] <;> omega) | fail) only [go_sem, simprocAttr, q43, q53]
      refine hQ _ ⟨by omega, fun b hb _ => ?_⟩
      rw [hf3 _ (by omega) (by omega) (by omega), hf2.old _ (by omega) (by omega)]
      exact hf _ hb
    | ok y =>
      obtain ⟨n, ts'⟩ := y
      rw [hx] at hQ
      intro h2 kv hf2 hp2 hk2
      have hn2 := hf2.n; try simp only [hN] at hn2
      have q42 : h2.get h.n = some ⟨0, .cells .own 0 zN⟩ := by rw [hf2.old _ (by omega) (by omega)]; exact q4
      have q52 : h2.get (h.n + 1) = some ⟨1, .cells .own 0 [.nilIface, .int .i64 0]⟩ := by rw [hf2.old _ (by omega) (by omega)]; exact hH5
      obtain ⟨vr, v, hr, htr⟩ := hp2.st
      have hlt2 := hp2.hi
      simp (disch := first | omega | (simp only [hN] <;> omega) | fail) only [go_sem, simprocAttr, q42, q52, hk2.flat.1, hk2.flat.2, hr, htr.len]
      cases ts' with
      | nil =>
        have c0 : decide ((0 : Int) > 0) = false := rfl
        simp (disch := first | omega | (simp only [hN] <;> omega) | fail) only [go_sem, simprocAttr, List.length_nil, Int.natCast_zero, c0, q42, q52, hk2.flat.1, hk2.flat.2]
        refine trecover_ret ?_
        simp (disch := first | omega | (simp only [hN] <;> omega) | fail) only [go_sem, simprocAttr, q42, q52, hk2.flat.1, hk2.flat.2]
        refine hQ _ kv ⟨by first | omega | (simp only [hN]; omega), fun b hb hne => by (try simp only [hN] at hb hne); simp (disch := first | omega | (simp only [hN] <;> omega) | fail) only [go_sem, simprocAttr, hf2.old, hf]⟩ (hk2.keep (by omega) (by simp (disch := first | omega | (simp only [hN] <;> omega) | fail) only [go_sem, simprocAttr]; exact Nat.le_refl _) fun b hb1 hb2 => by simp (disch := first | omega | (simp only [hN] <;> omega) | fail) only [go_sem, simprocAttr])
      | cons t ts' =>
        have c1 : decide (((ts'.length + 1 : Nat) : Int) > 0) = true := decide_eq_true (by omega)
        simp (disch := first | omega | (simp only [hN] <;> omega) | fail) only [go_sem, simprocAttr, c1]
        refine wrong_tok (hp2.loc (by omega) (by omega) q42) ?_
        intro h3 hf3
        have hn3 := hf3.n; try simp only [hN] at hn3
        have q43 : h3.get h.n = some ⟨1, .cells .own 0 (ndC n kv)⟩ := by simp (disch := first | omega | (simp only [hN] <;> omega) | fail) only [go_sem, simprocAttr, hf3.old]
        have q53 : h3.get (h.n + 1) = some ⟨1, .cells .own 0 [.nilIface, .int .i64 0]⟩ := by rw [hf3.old _ (by simp (disch := first | omega | (simp only [hN] <;> omega) | fail) only [go_sem, simprocAttr]; omega) (by simp (disch := first | omega | (simp only [hN] <;> omega) | fail) only [go_sem, simprocAttr]; omega), AHeap.get_upd, if_neg (by omega)]; exact q52
        simp (disch := first | omega | (simp only [hN] <;> omega) | fail) only [go_sem, simprocAttr, List.append_nil, List.nil_append]
        refine trecover_stop (n := n) q43 q53 (by omega) (by omega) (by omega) ?_
        rintro h4 hn4 hf4 ⟨v3, q44⟩ ⟨v4, q54⟩
        simp (disch := first | omega | (simp only [hN] <;> omega) | fail) only [go_sem, simprocAttr, q44, q54]
        refine hQ _ ⟨by omega, fun b hb _ => ?_⟩
        rw [hf4 _ (by omega) (by omega) (by omega), hf3.old _ (by simp (disch := first | omega | (simp only [hN] <;> omega) | fail) only [go_sem, simprocAttr]; omega) (by simp (disch := first | omega | (simp only [hN] <;> omega) | fail) only [go_sem, simprocAttr]; omega), AHeap.get_upd, if_neg (by omega), hf2.old _ (by omega) (by omega)]
        exact hf _ hb
theorem expr_read {s : Bs} (hlen : s.length < 2 ^ 62) {h : AHeap} (hG : GH h) {Q : QR} (hQ : ReadQ h Q (exprS s)) : WF F 19 [.str s] h Q := by
  refine WF.code F19 rfl ?_
  simp (disch := first | omega | (simp only [hN] <;> omega) | fail) only [go_sem, simprocAttr]
  refine read_tok (p := exprP) (fun E f => exprOf_tok (unary_tok f)) (fun E f => exprP_fine f) hlen ((hG.alloc _).alloc _) ?_
  change ReadQ _ _ (exprS s)
  cases hx : exprS s with
  | error x =>
    obtain ⟨e, q⟩ := x
    rw [hx] at hQ
    intro h1 hf1
    have hn1 := hf1.n; try simp only [hN] at hn1
    simp (disch := first | omega | (simp only [hN] <;> omega) | fail) only [go_sem, simprocAttr, hf1.old]
    exact hQ _ ⟨by first | omega | (simp only [hN]; omega), fun b hb hne => by (try simp only [hN] at hb hne); simp (disch := first | omega | (simp only [hN] <;> omega) | fail) only [go_sem, simprocAttr, hf1.old]⟩
  | ok n =>
    rw [hx] at hQ
    intro h1 kv hf1 hk1
    have hn1 := hf1.n; try simp only [hN] at hn1
    simp (disch := first | omega | (simp only [hN] <;> omega) | fail) only [go_sem, simprocAttr, hf1.old, hk1.flat.1, hk1.flat.2]
    exact hQ _ kv ⟨by first | omega | (simp only [hN]; omega), fun b hb hne => by (try simp only [hN] at hb hne); simp (disch := first | omega | (simp only [hN] <;> omega) | fail) only [go_sem, simprocAttr, hf1.old]⟩ (hk1.keep (by simp (disch := first | omega | (simp only [hN] <;> omega) | fail) only [go_sem, simprocAttr]; omega) (by simp (disch := first | omega | (simp only [hN] <;> omega) | fail) only [go_sem, simprocAttr]; exact Nat.le_refl _) fun b hb1 hb2 => by simp only [AHeap.alloc_n] at hb1; simp (disch := first | omega | (simp only [hN] <;> omega) | fail) only [go_sem, simprocAttr])
end Go.Ev
