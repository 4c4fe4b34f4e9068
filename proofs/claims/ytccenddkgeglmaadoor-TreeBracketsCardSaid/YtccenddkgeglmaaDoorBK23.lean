/- The tree's reader: prim. -/
import Derived.Test.YtccenddkgeglmaaDoorBK22
set_option linter.all false
set_option linter.unusedVariables false
set_option linter.unusedSimpArgs false
namespace Go.Ev
open Go
set_option maxRecDepth 100000
set_option maxHeartbeats 4000000

@[go_sem] theorem ite_tt {α : Sort _} {a b : α} : (if true = true then a else b) = a := if_pos rfl
theorem hdT_ne' {E k : Nat} {ts : List Tok} (h : (hdT E ts).kind = k) (hk : k ≠ 0) : ts ≠ [] := hdT_ne (E := E) (by omega)

theorem prim_tok {E : Nat} {x : PT} (hx : PSpec 38 E x) : PSpec 121 E (primP E x) := by
  intro h r lv ts Q hp hz hQ
  refine WF.code F121 rfl ?_
  have hlt := hp.hi
  simp (maxSteps := 9999999) (disch := first | omega | (simp only [hN] <;> omega) | fail) only [go_sem, simprocAttr]
  refine here_tok (E := E) (lv := lv) (ts := ts) (hp.fr ⟨by (first | omega | (simp only [AHeap.alloc_n, AHeap.upd_n]; omega)), fun b hb hne => by (try simp only [AHeap.alloc_n, AHeap.upd_n] at hb hne); simp (maxSteps := 9999999) (disch := first | omega | (simp only [hN] <;> omega) | fail) only [go_sem, simprocAttr]⟩) ?_
  intro h1 hf1
  have hn1 := hf1.n; try simp only [AHeap.alloc_n, AHeap.upd_n] at hn1
  have q0 : h1.get h.n = some ⟨0, .cells .own 0 [.int .i64 0, .int .i64 0, .str [], .int .i64 0, .int .i64 0, .int .i64 0, .int .i64 0, .int .u64 0, .nilSlice]⟩ := by simp (maxSteps := 9999999) (disch := first | omega | (simp only [hN] <;> omega) | fail) only [go_sem, simprocAttr, hf1.old]
  have hf : ∀ b', b' < h.n → h1.get b' = h.get b' := fun b' hb' => by simp (maxSteps := 9999999) (disch := first | omega | (simp only [hN] <;> omega) | fail) only [go_sem, simprocAttr, hf1.old]
  have hp1 : PInv h1 r E ts lv := hp.fr ⟨by (first | omega | (simp only [AHeap.alloc_n, AHeap.upd_n]; omega)), fun b hb hne => by (try simp only [AHeap.alloc_n, AHeap.upd_n] at hb hne); simp (maxSteps := 9999999) (disch := first | omega | (simp only [hN] <;> omega) | fail) only [go_sem, simprocAttr, hf]⟩
  have hlt1 := hp1.hi
  clear hf1
  simp (maxSteps := 9999999) (disch := first | omega | (simp only [hN] <;> omega) | fail) only [go_sem, simprocAttr, tokAV]
  generalize hH : (h1.alloc (AObj.cells Md.own 0 [AV.int IntKind.i64 0, AV.str [], AV.int IntKind.i64 0, AV.int IntKind.u64 0, AV.int IntKind.i64 0])).upd h1.n 1 (AObj.cells Md.own 0 [AV.int IntKind.i64 ((hdT E ts).kind : Int), AV.str (hdT E ts).text, AV.int IntKind.i64 ((hdT E ts).n : Int), AV.int IntKind.u64 ((hdT E ts).bits : Int), AV.int IntKind.i64 ((hdT E ts).pos : Int)]) = H
  have hHn : H.n = h1.n + 1 := by rw [← hH]; simp (maxSteps := 9999999) (disch := first | omega | (simp only [hN] <;> omega) | fail) only [go_sem, simprocAttr]
  have hH1 : ∀ b', b' < h1.n → H.get b' = h1.get b' := fun b' hb' => by rw [← hH]; simp (maxSteps := 9999999) (disch := first | omega | (simp only [hN] <;> omega) | fail) only [go_sem, simprocAttr]
  have hHt : H.get h1.n = some ⟨1, .cells .own 0 [.int .i64 ((hdT E ts).kind : Int), .str (hdT E ts).text, .int .i64 ((hdT E ts).n : Int), .int .u64 ((hdT E ts).bits : Int), .int .i64 ((hdT E ts).pos : Int)]⟩ := by rw [← hH]; simp (maxSteps := 9999999) (disch := first | omega | (simp only [hN] <;> omega) | fail) only [go_sem, simprocAttr]
  have hpH : PInv H r E ts lv := hp1.fr ⟨by omega, fun b hb _ => hH1 b hb⟩
  have q0 : H.get h.n = some ⟨0, .cells .own 0 [.int .i64 0, .int .i64 0, .str [], .int .i64 0, .int .i64 0, .int .i64 0, .int .i64 0, .int .u64 0, .nilSlice]⟩ := by rw [hH1 _ (by omega)]; exact q0
  have hf : ∀ b', b' < h.n → H.get b' = h.get b' := fun b' hb' => by rw [hH1 _ (by omega), hf _ hb']
  generalize h1.n = B at *
  clear hH1 hp1 hH
  simp only [primP] at hz hQ
  by_cases k3 : (hdT E ts).kind = 3
  · rw [if_pos k3] at hz hQ
    have e3 : (((hdT E ts).kind : Int) == 3) = true := by simp [k3]
    simp (maxSteps := 9999999) (disch := first | omega | (simp only [hN] <;> omega) | fail) only [go_sem, simprocAttr, hHt, e3]
    refine take_tok (k := 3) (E := E) (lv := lv) (ts := ts) hpH (by decide) ?_
    rw [if_pos k3]
    intro h2 hf2 hp2
    have hn2 := hf2.n; try simp only [AHeap.alloc_n, AHeap.upd_n] at hn2
    have q2 : h2.get B = H.get B := hf2.old _ (by omega) (by omega)
    have q3 : h2.get h.n = H.get h.n := hf2.old _ (by omega) (by omega)
    simp (maxSteps := 9999999) (disch := first | omega | (simp only [hN] <;> omega) | fail) only [go_sem, simprocAttr, tokAV, q2, q3, hHt, q0]
    refine hQ _ .nilSlice ⟨by (first | omega | (simp only [AHeap.alloc_n, AHeap.upd_n]; omega)), fun b hb hne => by (try simp only [AHeap.alloc_n, AHeap.upd_n] at hb hne); simp (maxSteps := 9999999) (disch := first | omega | (simp only [hN] <;> omega) | fail) only [go_sem, simprocAttr, hf2.old, hf]⟩ (hp2.fr' (q := h.n) (Fr.upd _ _ _) hlt) .nil
  rw [if_neg k3] at hz hQ
  have e3 : (((hdT E ts).kind : Int) == 3) = false := by simp; omega
  by_cases k4 : (hdT E ts).kind = 4
  · rw [if_pos k4] at hz hQ
    have e4 : (((hdT E ts).kind : Int) == 4) = true := by simp [k4]
    simp (maxSteps := 9999999) (disch := first | omega | (simp only [hN] <;> omega) | fail) only [go_sem, simprocAttr, hHt, e3, e4]
    refine take_tok (k := 4) (E := E) (lv := lv) (ts := ts) hpH (by decide) ?_
    rw [if_pos k4]
    intro h2 hf2 hp2
    have hn2 := hf2.n; try simp only [AHeap.alloc_n, AHeap.upd_n] at hn2
    have q2 : h2.get B = H.get B := hf2.old _ (by omega) (by omega)
    have q3 : h2.get h.n = H.get h.n := hf2.old _ (by omega) (by omega)
    simp (maxSteps := 9999999) (disch := first | omega | (simp only [hN] <;> omega) | fail) only [go_sem, simprocAttr, tokAV, q2, q3, hHt, q0]
    refine hQ _ .nilSlice ⟨by (first | omega | (simp only [AHeap.alloc_n, AHeap.upd_n]; omega)), fun b hb hne => by (try simp only [AHeap.alloc_n, AHeap.upd_n] at hb hne); simp (maxSteps := 9999999) (disch := first | omega | (simp only [hN] <;> omega) | fail) only [go_sem, simprocAttr, hf2.old, hf]⟩ (hp2.fr' (q := h.n) (Fr.upd _ _ _) hlt) .nil
  rw [if_neg k4] at hz hQ
  have e4 : (((hdT E ts).kind : Int) == 4) = false := by simp; omega
  by_cases k1 : (hdT E ts).kind = 1
  · rw [if_pos k1] at hz hQ
    have e1 : (((hdT E ts).kind : Int) == 1) = true := by simp [k1]
    simp (maxSteps := 9999999) (disch := first | omega | (simp only [hN] <;> omega) | fail) only [go_sem, simprocAttr, hHt, e3, e4, e1]
    refine name_tok hx hpH k1 hz ?_
    cases hy : nameP E x lv ts with
    | error e =>
      obtain ⟨e, p⟩ := e
      rw [hy] at hQ
      intro h2 hf2
      have hn2 := hf2.n; try simp only [AHeap.alloc_n, AHeap.upd_n] at hn2
      simp (maxSteps := 9999999) (disch := first | omega | (simp only [hN] <;> omega) | fail) only [go_sem, simprocAttr]
      exact hQ _ ⟨by (first | omega | (simp only [AHeap.alloc_n, AHeap.upd_n]; omega)), fun b hb hne => by (try simp only [AHeap.alloc_n, AHeap.upd_n] at hb hne); simp (maxSteps := 9999999) (disch := first | omega | (simp only [hN] <;> omega) | fail) only [go_sem, simprocAttr, hf2.old, hf]⟩
    | ok y =>
      obtain ⟨k, ts2⟩ := y
      rw [hy] at hQ
      intro h2 kv hf2 hp2 hk2
      have hn2 := hf2.n; try simp only [AHeap.alloc_n, AHeap.upd_n] at hn2
      have q3 : h2.get h.n = H.get h.n := hf2.old _ (by omega) (by omega)
      simp (maxSteps := 9999999) (disch := first | omega | (simp only [hN] <;> omega) | fail) only [go_sem, simprocAttr, q3, q0, hk2.flat.1, hk2.flat.2]
      exact hQ _ kv ⟨by (first | omega | (simp only [AHeap.alloc_n, AHeap.upd_n]; omega)), fun b hb hne => by (try simp only [AHeap.alloc_n, AHeap.upd_n] at hb hne); simp (maxSteps := 9999999) (disch := first | omega | (simp only [hN] <;> omega) | fail) only [go_sem, simprocAttr, hf2.old, hf]⟩ (hp2.fr' (q := h.n) (Fr.upd _ _ _) hlt) (hk2.keep (by omega) (by simp (maxSteps := 9999999) (disch := first | omega | (simp only [hN] <;> omega) | fail) only [go_sem, simprocAttr]; omega) fun b hb1 hb2 => by simp (maxSteps := 9999999) (disch := first | omega | (simp only [hN] <;> omega) | fail) only [go_sem, simprocAttr])
  rw [if_neg k1] at hz hQ
  have e1 : (((hdT E ts).kind : Int) == 1) = false := by simp; omega
  simp (maxSteps := 9999999) (disch := first | omega | (simp only [hN] <;> omega) | fail) only [go_sem, simprocAttr, hHt, e3, e4, e1]
  refine maybe_tok (E := E) (lv := lv) (ts := ts) hpH ?_
  by_cases kt : isT [[116, 114, 117, 101]] ts = true
  · rw [if_pos kt] at hz hQ ⊢
    intro h2 hf2 hp2
    have hn2 := hf2.n; try simp only [AHeap.alloc_n, AHeap.upd_n] at hn2
    have q2 : h2.get B = H.get B := hf2.old _ (by omega) (by omega)
    have q3 : h2.get h.n = H.get h.n := hf2.old _ (by omega) (by omega)
    simp (maxSteps := 9999999) (disch := first | omega | (simp only [hN] <;> omega) | fail) only [go_sem, simprocAttr, q2, q3, hHt, q0]
    refine hQ _ .nilSlice ⟨by (first | omega | (simp only [AHeap.alloc_n, AHeap.upd_n]; omega)), fun b hb hne => by (try simp only [AHeap.alloc_n, AHeap.upd_n] at hb hne); simp (maxSteps := 9999999) (disch := first | omega | (simp only [hN] <;> omega) | fail) only [go_sem, simprocAttr, hf2.old, hf]⟩ (hp2.fr' (q := h.n) (Fr.upd _ _ _) hlt) .nil
  rw [if_neg kt] at hz hQ ⊢
  intro h2 hf2
  have hn2 := hf2.n; try simp only [AHeap.alloc_n, AHeap.upd_n] at hn2
  simp (maxSteps := 9999999) (disch := first | omega | (simp only [hN] <;> omega) | fail) only [go_sem, simprocAttr]
  have hp2 := hpH.fr hf2
  refine maybe_tok (E := E) (lv := lv) (ts := ts) hp2 ?_
  by_cases kf : isT [[102, 97, 108, 115, 101]] ts = true
  · rw [if_pos kf] at hz hQ ⊢
    intro h3 hf3 hp3
    have hn3 := hf3.n; try simp only [AHeap.alloc_n, AHeap.upd_n] at hn3
    have q2 : h3.get B = H.get B := (hf3.old _ (by omega) (by omega)).trans (hf2.old _ (by omega) (by omega))
    have q3 : h3.get h.n = H.get h.n := (hf3.old _ (by omega) (by omega)).trans (hf2.old _ (by omega) (by omega))
    simp (maxSteps := 9999999) (disch := first | omega | (simp only [hN] <;> omega) | fail) only [go_sem, simprocAttr, q2, q3, hHt, q0]
    refine hQ _ .nilSlice ⟨by (first | omega | (simp only [AHeap.alloc_n, AHeap.upd_n]; omega)), fun b hb hne => by (try simp only [AHeap.alloc_n, AHeap.upd_n] at hb hne); simp (maxSteps := 9999999) (disch := first | omega | (simp only [hN] <;> omega) | fail) only [go_sem, simprocAttr, hf3.old, hf2.old, hf]⟩ (hp3.fr' (q := h.n) (Fr.upd _ _ _) hlt) .nil
  rw [if_neg kf] at hz hQ ⊢
  intro h3 hf3
  have hn3 := hf3.n; try simp only [AHeap.alloc_n, AHeap.upd_n] at hn3
  have hp3 := hp2.fr hf3
  simp (maxSteps := 9999999) (disch := first | omega | (simp only [hN] <;> omega) | fail) only [go_sem, simprocAttr]
  refine is_tok (ws := [[105, 110, 116], [102, 108, 111, 97, 116]]) (md := .own) (ver := 0) (E := E) (ts := ts) (lv := lv) (hp3.fr ⟨by (first | omega | (simp only [AHeap.alloc_n, AHeap.upd_n]; omega)), fun b hb hne => by (try simp only [AHeap.alloc_n, AHeap.upd_n] at hb hne); simp (maxSteps := 9999999) (disch := first | omega | (simp only [hN] <;> omega) | fail) only [go_sem, simprocAttr]⟩) (by (first | (simp (maxSteps := 9999999) (disch := first | omega | (simp only [hN] <;> omega) | fail) only [go_sem, simprocAttr, List.map]; done) | (simp (maxSteps := 9999999) (disch := first | omega | (simp only [hN] <;> omega) | fail) only [go_sem, simprocAttr, List.map]; rfl))) (by simp (maxSteps := 9999999) (disch := first | omega | (simp only [hN] <;> omega) | fail) only [go_sem, simprocAttr]; omega) (show 2 < 2 ^ 62 by decide) ?_
  intro h4 hf4
  have hn4 := hf4.n; try simp only [AHeap.alloc_n, AHeap.upd_n] at hn4
  have q2 : h4.get B = H.get B := by simp (maxSteps := 9999999) (disch := first | omega | (simp only [hN] <;> omega) | fail) only [go_sem, simprocAttr, hf4.old, hf3.old, hf2.old]
  have q3 : h4.get h.n = H.get h.n := by simp (maxSteps := 9999999) (disch := first | omega | (simp only [hN] <;> omega) | fail) only [go_sem, simprocAttr, hf4.old, hf3.old, hf2.old]
  have hp4 : PInv h4 r E ts lv := hp3.fr ⟨by (first | omega | (simp only [AHeap.alloc_n, AHeap.upd_n]; omega)), fun b hb hne => by (try simp only [AHeap.alloc_n, AHeap.upd_n] at hb hne); simp (maxSteps := 9999999) (disch := first | omega | (simp only [hN] <;> omega) | fail) only [go_sem, simprocAttr, hf4.old]⟩
  have hf' : ∀ b', b' < h.n → h4.get b' = h.get b' := fun b' hb' => by rw [← hf b' hb']; simp (maxSteps := 9999999) (disch := first | omega | (simp only [hN] <;> omega) | fail) only [go_sem, simprocAttr, hf4.old, hf3.old, hf2.old]
  have hn : B + 1 ≤ h4.n := by omega
  rw [hHt] at q2
  rw [q0] at q3
  clear hf4 hp3 hp2 hf2 hf3 hn2 hn3 hn4 hf hpH hHt q0 hHn e3 e4 e1 kf kt
  by_cases kc : isT [[105, 110, 116], [102, 108, 111, 97, 116]] ts = true
  · rw [if_pos kc] at hz hQ
    obtain ⟨ver, v, hr, ht⟩ := hp4.st
    obtain ⟨b, o, ver2, cs, rfl, hc, hb, ht'⟩ := ht.slc (isT_ne kc)
    have hpos : 0 < ts.length := List.length_pos_iff.2 (isT_ne kc)
    have c1 : bnd (some (.int .i64 1)) 0 ts.length = some 1 := bnd_num (i := 1) (by omega)
    have c2 : ts.length.beq 0 = false := by rw [beq_nat]; exact decide_eq_false (by omega)
    simp (maxSteps := 9999999) (disch := first | omega | (simp only [hN] <;> omega) | fail) only [go_sem, simprocAttr, kc, hr, hc, c1, c2, Option.isSome_none, Bool.and_false, cond_false]
    have hp5 : PInv (h4.upd r (ver + 1) (.cells .own 0 [.slice b (o + 5) (ts.length - 1) (ts.length - 1) false, .int .i64 (E : Int), .int .i64 (lv : Int)])) r E ts.tail lv := hp4.step (ver := ver + 1) (Fr.upd _ _ _) (by simp (maxSteps := 9999999) (disch := first | omega | (simp only [hN] <;> omega) | fail) only [go_sem, simprocAttr]) ht' hp4.lvl
    have hn5 : h4.n = (h4.upd r (ver + 1) (.cells .own 0 [.slice b (o + 5) (ts.length - 1) (ts.length - 1) false, .int .i64 (E : Int), .int .i64 (lv : Int)])).n := rfl
    have hf5 : ∀ b', b' ≠ r → (h4.upd r (ver + 1) (.cells .own 0 [.slice b (o + 5) (ts.length - 1) (ts.length - 1) false, .int .i64 (E : Int), .int .i64 (lv : Int)])).get b' = h4.get b' := fun b' hb' => by rw [AHeap.get_upd, if_neg hb']
    generalize h4.upd r (ver + 1) (.cells .own 0 [.slice b (o + 5) (ts.length - 1) (ts.length - 1) false, .int .i64 (E : Int), .int .i64 (lv : Int)]) = h5 at *
    simp only [inP] at hz hQ
    refine open_tok hp5 ?_
    by_cases hh : isT [[40]] ts.tail = true
    · rw [if_pos hh] at hz hQ ⊢
      by_cases h16 : lv = 16
      · rw [if_pos h16] at hQ ⊢
        intro h6 hf6
        have hn6 := hf6.n; try simp only [AHeap.alloc_n, AHeap.upd_n] at hn6
        simp (maxSteps := 9999999) (disch := first | omega | (simp only [hN] <;> omega) | fail) only [go_sem, simprocAttr]
        exact hQ _ ⟨by (first | omega | (simp only [AHeap.alloc_n, AHeap.upd_n]; omega)), fun b hb hne => by (try simp only [AHeap.alloc_n, AHeap.upd_n] at hb hne); simp (maxSteps := 9999999) (disch := first | omega | (simp only [hN] <;> omega) | fail) only [go_sem, simprocAttr, hf6.old, hf5, hf']⟩
      · rw [if_neg h16] at hQ hz ⊢
        intro h6 hf6 hp6
        have hn6 := hf6.n; try simp only [AHeap.alloc_n, AHeap.upd_n] at hn6
        have q6 : h6.get B = h4.get B := by simp (maxSteps := 9999999) (disch := first | omega | (simp only [hN] <;> omega) | fail) only [go_sem, simprocAttr, hf6.old, hf5]
        rw [q2] at q6
        have d1 : decide (B = h6.n) = false := decide_eq_false (by omega)
        simp (maxSteps := 9999999) (disch := first | omega | (simp only [hN] <;> omega) | fail) only [go_sem, simprocAttr, tokAV, q6, d1]
        refine hx (hp6.fr (h' := h6.alloc (.cells .own 0 [.int .i64 0, .int .i64 0, .str [], .int .i64 0, .int .i64 0, .int .i64 0, .int .i64 0, .int .u64 0, .nilSlice])) ⟨by (first | omega | (simp only [AHeap.alloc_n, AHeap.upd_n]; omega)), fun b hb hne => by (try simp only [AHeap.alloc_n, AHeap.upd_n] at hb hne); simp (maxSteps := 9999999) (disch := first | omega | (simp only [hN] <;> omega) | fail) only [go_sem, simprocAttr]⟩) ?_ ?_
        · intro e; rw [e] at hz; exact hz rfl
        cases hxx : x (lv + 1) ts.tail.tail with
        | error e =>
          obtain ⟨e, p⟩ := e
          rw [hxx] at hQ
          intro h7 hf7
          have hn7 := hf7.n; try simp only [AHeap.alloc_n, AHeap.upd_n] at hn7
          have q7 : h7.get B = h6.get B := by simp (maxSteps := 9999999) (disch := first | omega | (simp only [hN] <;> omega) | fail) only [go_sem, simprocAttr, hf7.old]
          have q8 : h7.get h6.n = some ⟨0, .cells .own 0 [.int .i64 0, .int .i64 0, .str [], .int .i64 0, .int .i64 0, .int .i64 0, .int .i64 0, .int .u64 0, .nilSlice]⟩ := by simp (maxSteps := 9999999) (disch := first | omega | (simp only [hN] <;> omega) | fail) only [go_sem, simprocAttr, hf7.old]
          simp (maxSteps := 9999999) (disch := first | omega | (simp only [hN] <;> omega) | fail) only [go_sem, simprocAttr, q7, q8, q6]
          exact hQ _ ⟨by (first | omega | (simp only [AHeap.alloc_n, AHeap.upd_n]; omega)), fun b hb hne => by (try simp only [AHeap.alloc_n, AHeap.upd_n] at hb hne); simp (maxSteps := 9999999) (disch := first | omega | (simp only [hN] <;> omega) | fail) only [go_sem, simprocAttr, hf7.old, hf6.old, hf5, hf']⟩
        | ok y =>
          obtain ⟨k, ts2⟩ := y
          rw [hxx] at hQ hz
          intro h7 kv hf7 hp7 hk7
          have hn7 := hf7.n; try simp only [AHeap.alloc_n, AHeap.upd_n] at hn7
          have q7 : h7.get B = h6.get B := by simp (maxSteps := 9999999) (disch := first | omega | (simp only [hN] <;> omega) | fail) only [go_sem, simprocAttr, hf7.old]
          have q8 : h7.get h6.n = some ⟨0, .cells .own 0 [.int .i64 0, .int .i64 0, .str [], .int .i64 0, .int .i64 0, .int .i64 0, .int .i64 0, .int .u64 0, .nilSlice]⟩ := by simp (maxSteps := 9999999) (disch := first | omega | (simp only [hN] <;> omega) | fail) only [go_sem, simprocAttr, hf7.old]
          simp (maxSteps := 9999999) (disch := first | omega | (simp only [hN] <;> omega) | fail) only [go_sem, simprocAttr, q7, q8, q6, hk7.flat.1, hk7.flat.2]
          refine close_tok (E := E) (lv := lv) (ts := ts2) ((hp7.fr (h' := h7.alloc (.cells .own 9 (ndC k kv))) ⟨by (first | omega | (simp only [AHeap.alloc_n, AHeap.upd_n]; omega)), fun b hb hne => by (try simp only [AHeap.alloc_n, AHeap.upd_n] at hb hne); simp (maxSteps := 9999999) (disch := first | omega | (simp only [hN] <;> omega) | fail) only [go_sem, simprocAttr]⟩).fr' (q := h6.n) (Fr.upd _ _ _) (by omega)) ?_
          simp only at hQ
          by_cases hb : isT [[41]] ts2 = true
          · rw [if_pos hb] at hQ ⊢
            intro h8 hf8 hp8
            have hn8 := hf8.n; try simp only [AHeap.alloc_n, AHeap.upd_n] at hn8
            have q9 : h8.get h.n = h4.get h.n := by simp (maxSteps := 9999999) (disch := first | omega | (simp only [hN] <;> omega) | fail) only [go_sem, simprocAttr, hf8.old, hf7.old, hf6.old, hf5]
            rw [q3] at q9
            have q10 : h8.get h6.n = some ⟨1, .cells .own 0 [.int .i64 30, .int .i64 ((hdT E ts).pos : Int), .str (hdT E ts).text, .int .i64 0, .int .i64 0, .int .i64 0, .int .i64 0, .int .u64 0, .slice h7.n 0 1 1 true]⟩ := by simp (maxSteps := 9999999) (disch := first | omega | (simp only [hN] <;> omega) | fail) only [go_sem, simprocAttr, hf8.old]
            simp (maxSteps := 9999999) (disch := first | omega | (simp only [hN] <;> omega) | fail) only [go_sem, simprocAttr, q9, q10]
            refine hQ _ _ ⟨by (first | omega | (simp only [AHeap.alloc_n, AHeap.upd_n]; omega)), fun b hb hne => by (try simp only [AHeap.alloc_n, AHeap.upd_n] at hb hne); simp (maxSteps := 9999999) (disch := first | omega | (simp only [hN] <;> omega) | fail) only [go_sem, simprocAttr, hf8.old, hf7.old, hf6.old, hf5, hf']⟩ (hp8.fr' (q := h.n) (Fr.upd _ _ _) hlt) ?_
            refine KidsR.one (ver := 0) (kv := kv) (hk7.keep (by simp only [AHeap.alloc_n]; omega) (by simp only [AHeap.alloc_n, AHeap.upd_n]; omega) fun b hb1 hb2 => by simp only [AHeap.alloc_n] at hb1; simp (maxSteps := 9999999) (disch := first | omega | (simp only [hN] <;> omega) | fail) only [go_sem, simprocAttr, hf8.old]) (by omega) (by simp (maxSteps := 9999999) (disch := first | omega | (simp only [hN] <;> omega) | fail) only [go_sem, simprocAttr]; omega) (by simp (maxSteps := 9999999) (disch := first | omega | (simp only [hN] <;> omega) | fail) only [go_sem, simprocAttr, hf8.old])
          · rw [if_neg hb] at hQ ⊢
            intro h8 hf8
            have hn8 := hf8.n; try simp only [AHeap.alloc_n, AHeap.upd_n] at hn8
            simp (maxSteps := 9999999) (disch := first | omega | (simp only [hN] <;> omega) | fail) only [go_sem, simprocAttr]
            exact hQ _ ⟨by (first | omega | (simp only [AHeap.alloc_n, AHeap.upd_n]; omega)), fun b hb hne => by (try simp only [AHeap.alloc_n, AHeap.upd_n] at hb hne); simp (maxSteps := 9999999) (disch := first | omega | (simp only [hN] <;> omega) | fail) only [go_sem, simprocAttr, hf8.old, hf7.old, hf6.old, hf5, hf']⟩
    · rw [if_neg hh] at hz hQ ⊢
      intro h6 hf6
      have hn6 := hf6.n; try simp only [AHeap.alloc_n, AHeap.upd_n] at hn6
      simp (maxSteps := 9999999) (disch := first | omega | (simp only [hN] <;> omega) | fail) only [go_sem, simprocAttr]
      exact hQ _ ⟨by (first | omega | (simp only [AHeap.alloc_n, AHeap.upd_n]; omega)), fun b hb hne => by (try simp only [AHeap.alloc_n, AHeap.upd_n] at hb hne); simp (maxSteps := 9999999) (disch := first | omega | (simp only [hN] <;> omega) | fail) only [go_sem, simprocAttr, hf6.old, hf5, hf']⟩
  · rw [if_neg kc] at hz hQ
    have hh' : isT [[105, 110, 116], [102, 108, 111, 97, 116]] ts = false := by simpa using kc
    simp (maxSteps := 9999999) (disch := first | omega | (simp only [hN] <;> omega) | fail) only [go_sem, simprocAttr, hh']
    simp only [inP] at hz hQ
    refine open_tok hp4 ?_
    by_cases hh : isT [[40]] ts = true
    · rw [if_pos hh] at hz hQ ⊢
      by_cases h16 : lv = 16
      · rw [if_pos h16] at hQ ⊢
        intro h6 hf6
        have hn6 := hf6.n; try simp only [AHeap.alloc_n, AHeap.upd_n] at hn6
        simp (maxSteps := 9999999) (disch := first | omega | (simp only [hN] <;> omega) | fail) only [go_sem, simprocAttr]
        exact hQ _ ⟨by (first | omega | (simp only [AHeap.alloc_n, AHeap.upd_n]; omega)), fun b hb hne => by (try simp only [AHeap.alloc_n, AHeap.upd_n] at hb hne); simp (maxSteps := 9999999) (disch := first | omega | (simp only [hN] <;> omega) | fail) only [go_sem, simprocAttr, hf6.old, hf']⟩
      · rw [if_neg h16] at hQ hz ⊢
        intro h6 hf6 hp6
        have hn6 := hf6.n; try simp only [AHeap.alloc_n, AHeap.upd_n] at hn6
        simp (maxSteps := 9999999) (disch := first | omega | (simp only [hN] <;> omega) | fail) only [go_sem, simprocAttr, tokAV]
        refine hx hp6 ?_ ?_
        · intro e; rw [e] at hz; exact hz rfl
        cases hxx : x (lv + 1) ts.tail with
        | error e =>
          obtain ⟨e, p⟩ := e
          rw [hxx] at hQ
          intro h7 hf7
          have hn7 := hf7.n; try simp only [AHeap.alloc_n, AHeap.upd_n] at hn7
          simp (maxSteps := 9999999) (disch := first | omega | (simp only [hN] <;> omega) | fail) only [go_sem, simprocAttr]
          exact hQ _ ⟨by (first | omega | (simp only [AHeap.alloc_n, AHeap.upd_n]; omega)), fun b hb hne => by (try simp only [AHeap.alloc_n, AHeap.upd_n] at hb hne); simp (maxSteps := 9999999) (disch := first | omega | (simp only [hN] <;> omega) | fail) only [go_sem, simprocAttr, hf7.old, hf6.old, hf']⟩
        | ok y =>
          obtain ⟨k, ts2⟩ := y
          rw [hxx] at hQ hz
          intro h7 kv hf7 hp7 hk7
          have hn7 := hf7.n; try simp only [AHeap.alloc_n, AHeap.upd_n] at hn7
          simp (maxSteps := 9999999) (disch := first | omega | (simp only [hN] <;> omega) | fail) only [go_sem, simprocAttr, hk7.flat.1, hk7.flat.2]
          refine close_tok (E := E) (lv := lv) (ts := ts2) (hp7.fr ⟨by (first | omega | (simp only [AHeap.alloc_n, AHeap.upd_n]; omega)), fun b hb hne => by (try simp only [AHeap.alloc_n, AHeap.upd_n] at hb hne); simp (maxSteps := 9999999) (disch := first | omega | (simp only [hN] <;> omega) | fail) only [go_sem, simprocAttr]⟩) ?_
          simp only at hQ
          by_cases hb : isT [[41]] ts2 = true
          · rw [if_pos hb] at hQ ⊢
            intro h8 hf8 hp8
            have hn8 := hf8.n; try simp only [AHeap.alloc_n, AHeap.upd_n] at hn8
            have q9 : h8.get h.n = h4.get h.n := by simp (maxSteps := 9999999) (disch := first | omega | (simp only [hN] <;> omega) | fail) only [go_sem, simprocAttr, hf8.old, hf7.old, hf6.old]
            rw [q3] at q9
            have q10 : h8.get h7.n = some ⟨1, .cells .own 0 (ndC k kv)⟩ := by simp (maxSteps := 9999999) (disch := first | omega | (simp only [hN] <;> omega) | fail) only [go_sem, simprocAttr, hf8.old]
            simp (maxSteps := 9999999) (disch := first | omega | (simp only [hN] <;> omega) | fail) only [go_sem, simprocAttr, q9, q10, hk7.flat.1, hk7.flat.2]
            exact hQ _ kv ⟨by (first | omega | (simp only [AHeap.alloc_n, AHeap.upd_n]; omega)), fun b hb hne => by (try simp only [AHeap.alloc_n, AHeap.upd_n] at hb hne); simp (maxSteps := 9999999) (disch := first | omega | (simp only [hN] <;> omega) | fail) only [go_sem, simprocAttr, hf8.old, hf7.old, hf6.old, hf']⟩ (hp8.fr' (q := h.n) (Fr.upd _ _ _) hlt) (hk7.keep (by omega) (by simp (maxSteps := 9999999) (disch := first | omega | (simp only [hN] <;> omega) | fail) only [go_sem, simprocAttr]; omega) fun b hb1 hb2 => by simp (maxSteps := 9999999) (disch := first | omega | (simp only [hN] <;> omega) | fail) only [go_sem, simprocAttr, hf8.old])
          · rw [if_neg hb] at hQ ⊢
            intro h8 hf8
            have hn8 := hf8.n; try simp only [AHeap.alloc_n, AHeap.upd_n] at hn8
            simp (maxSteps := 9999999) (disch := first | omega | (simp only [hN] <;> omega) | fail) only [go_sem, simprocAttr]
            exact hQ _ ⟨by (first | omega | (simp only [AHeap.alloc_n, AHeap.upd_n]; omega)), fun b hb hne => by (try simp only [AHeap.alloc_n, AHeap.upd_n] at hb hne); simp (maxSteps := 9999999) (disch := first | omega | (simp only [hN] <;> omega) | fail) only [go_sem, simprocAttr, hf8.old, hf7.old, hf6.old, hf']⟩
    · rw [if_neg hh] at hz hQ ⊢
      intro h6 hf6
      have hn6 := hf6.n; try simp only [AHeap.alloc_n, AHeap.upd_n] at hn6
      simp (maxSteps := 9999999) (disch := first | omega | (simp only [hN] <;> omega) | fail) only [go_sem, simprocAttr]
      exact hQ _ ⟨by (first | omega | (simp only [AHeap.alloc_n, AHeap.upd_n]; omega)), fun b hb hne => by (try simp only [AHeap.alloc_n, AHeap.upd_n] at hb hne); simp (maxSteps := 9999999) (disch := first | omega | (simp only [hN] <;> omega) | fail) only [go_sem, simprocAttr, hf6.old, hf']⟩
end Go.Ev
