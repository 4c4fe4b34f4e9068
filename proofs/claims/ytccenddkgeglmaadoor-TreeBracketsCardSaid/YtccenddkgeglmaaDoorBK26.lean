/- The tree's reader: a whole text. -/
import Derived.Test.YtccenddkgeglmaaDoorBK25
set_option linter.all false
set_option linter.unusedVariables false
set_option linter.unusedSimpArgs false
namespace Go.Ev
open Go
set_option maxRecDepth 100000
set_option maxHeartbeats 4000000

def zN : List AV := [.int .i64 0, .int .i64 0, .str [], .int .i64 0, .int .i64 0, .int .i64 0, .int .i64 0, .int .u64 0, .nilSlice]
attribute [go_sem] zN
theorem trecover_ret {o b : Nat} {h : AHeap} {Q : AHeap → Prop} (hQ : Q h) : WDef F 63 [.ptr o 0, .ptr b 0] .ret h Q := by
  refine WDef.code F63 rfl ?_
  simp (maxSteps := 9999999) (disch := first | omega | (simp only [hN] <;> omega) | fail) only [go_sem, simprocAttr, eqT, eqK]
  exact hQ
theorem trecover_stop {o b e p v1 v2 : Nat} {h : AHeap} {n : Nd} {kv x2 x3 : AV} {Q : AHeap → Prop} (ho : h.get o = some ⟨v1, .cells .own 0 (ndC n kv)⟩) (hb : h.get b = some ⟨v2, .cells .own 0 [x2, x3]⟩) (hob : o ≠ b) (hon : o < h.n) (hbn : b < h.n)
    (hQ : ∀ h', h.n ≤ h'.n → (∀ c, c < h.n → c ≠ o → c ≠ b → h'.get c = h.get c) → (∃ v, h'.get o = some ⟨v, .cells .own 0 zN⟩) → (∃ v, h'.get b = some ⟨v, .cells .own 0 [errAV e, .int .i64 (p : Int)]⟩) → Q h') :
    WDef F 63 [.ptr o 0, .ptr b 0] (.pan (.iface 95 (.agg [errAV e, .int .i64 (p : Int)]))) h Q := by
  refine WDef.code F63 rfl ?_
  have d1 : decide (h.n = o) = false := decide_eq_false (by omega)
  simp (maxSteps := 9999999) (disch := first | omega | (simp only [hN] <;> omega) | fail) only [go_sem, simprocAttr, eqT, eqK, Nat.beq_refl, List.getElem?_cons_zero, ho, hb, d1]
  exact hQ _ (by simp only [AHeap.alloc_n, AHeap.upd_n]; omega) (fun c hc h1 h2 => by simp (maxSteps := 9999999) (disch := first | omega | (simp only [hN] <;> omega) | fail) only [go_sem, simprocAttr]) ⟨v1 + 1, by simp (maxSteps := 9999999) (disch := first | omega | (simp only [hN] <;> omega) | fail) only [go_sem, simprocAttr]⟩ ⟨v2 + 1, by simp (maxSteps := 9999999) (disch := first | omega | (simp only [hN] <;> omega) | fail) only [go_sem, simprocAttr]⟩

theorem PInv.loc {h : AHeap} {r E lv q v0 v1 : Nat} {ts : List Tok} {cs : List AV} {o : AObj} (p : PInv h r E ts lv) (hq : 18 + 17 ≤ q) (hqr : q ≠ r) (hg : h.get q = some ⟨v0, .cells .own 0 cs⟩) : PInv (h.upd q v1 o) r E ts lv := by
  obtain ⟨ver, v, h1, h2⟩ := p.st
  refine ⟨p.gh.upd hq _ _, p.lo, p.hi, p.lvl, ver, v, by rw [AHeap.get_upd, if_neg (Ne.symm hqr)]; exact h1, ?_⟩
  rcases h2 with h2 | ⟨b, vb, k, all, e1, e2, e3, e4⟩
  · exact .inl h2
  · refine .inr ⟨b, vb, k, all, e1, e2, ?_, e4⟩
    rw [AHeap.get_upd, if_neg (by rintro rfl; rw [hg] at e3; cases e3)]
    exact e3

def ReadQ (h : AHeap) (Q : QR) : Except Err Nd → Prop
  | .error (e, p) => ∀ h', Fr h.n h h' → Q (.ret (.tuple [.agg zN, .agg [errAV e, .int .i64 (p : Int)]])) h'
  | .ok n => ∀ h' kv, Fr h.n h h' → KidsR h.n h' n.kids kv → Q (.ret (.tuple [.agg (ndC n kv), .agg [.nilIface, .int .i64 0]])) h'

theorem read_tok {fid : Nat} {p : Nat → Nat → PT} (hP : ∀ E f, PSpec fid E (p E f)) (hF : ∀ E f, Fine f (p E (f + 1))) {s : Bs} (hlen : s.length < 2 ^ 62) {h : AHeap} (hG : GH h) {Q : QR} (hQ : ReadQ h Q (readP p s)) : WF F 37 [.str s, .func (.func fid) [] []] h Q := by
  refine WF.code F37 rfl ?_
  simp (maxSteps := 9999999) (disch := first | omega | (simp only [hN] <;> omega) | fail) only [go_sem, simprocAttr]
  refine tokens_spec ((hG.alloc _).alloc _) hlen ?_
  unfold readP at hQ
  cases hts : tokens s with
  | error x =>
    obtain ⟨e, q⟩ := x
    rw [hts] at hQ
    intro h1 hf1
    have hn1 := hf1.n; try simp only [AHeap.alloc_n, AHeap.upd_n] at hn1
    have d1 : decide (h.n + 1 = h.n) = false := decide_eq_false (by omega)
    simp (maxSteps := 9999999) (disch := first | omega | (simp only [hN] <;> omega) | fail) only [go_sem, simprocAttr, hf1.old, d1]
    refine hQ _ ?_
    exact ⟨by (first | omega | (simp only [AHeap.alloc_n, AHeap.upd_n]; omega)), fun b hb hne => by (try simp only [AHeap.alloc_n, AHeap.upd_n] at hb hne); simp (maxSteps := 9999999) (disch := first | omega | (simp only [hN] <;> omega) | fail) only [go_sem, simprocAttr, hf1.old]⟩
  | ok ts =>
    rw [hts] at hQ
    simp only at hQ
    intro h1 v1 hf1 hts1
    have hn1 := hf1.n; try simp only [AHeap.alloc_n, AHeap.upd_n] at hn1
    have hG1 : GH h1 := hf1.gh (by have := hG.n; simp (maxSteps := 9999999) (disch := first | omega | (simp only [hN] <;> omega) | fail) only [go_sem, simprocAttr]; omega) ((hG.alloc _).alloc _)
    simp (maxSteps := 9999999) (disch := first | omega | (simp only [hN] <;> omega) | fail) only [go_sem, simprocAttr, hf1.old, eqT_nil, hts1.flat.1, hts1.flat.2]
    have hf : ∀ b', b' < h.n → h1.get b' = h.get b' := fun b' hb' => by simp (maxSteps := 9999999) (disch := first | omega | (simp only [hN] <;> omega) | fail) only [go_sem, simprocAttr, hf1.old]
    have q4 : h1.get h.n = some ⟨0, .cells .own 0 zN⟩ := by simp (maxSteps := 9999999) (disch := first | omega | (simp only [hN] <;> omega) | fail) only [go_sem, simprocAttr, hf1.old]
    have ht0 : TokR h1 h1.n ts v1 := by
      obtain ⟨_, ⟨h0, rfl⟩ | ⟨hpos, b, ver, rfl, hb1, hb2, hb3⟩⟩ := hts1
      · exact .inl ⟨List.length_eq_zero_iff.1 h0, rfl⟩
      · exact .inr ⟨b, ver, 0, ts, by simp, hb2, hb3, rfl⟩
    generalize hH : ((h1.upd (h.n + 1) 1 (.cells .own 0 [.nilIface, .int .i64 0])).alloc (.cells .own 0 [v1, .int .i64 (s.length : Int), .int .i64 0])) = H
    have hHn : H.n = h1.n + 1 := by rw [← hH]; simp (maxSteps := 9999999) (disch := first | omega | (simp only [hN] <;> omega) | fail) only [go_sem, simprocAttr]
    have hH1 : ∀ b', b' < h1.n → b' ≠ h.n + 1 → H.get b' = h1.get b' := fun b' hb' hn' => by rw [← hH]; simp (maxSteps := 9999999) (disch := first | omega | (simp only [hN] <;> omega) | fail) only [go_sem, simprocAttr]
    have hH5 : H.get (h.n + 1) = some ⟨1, .cells .own 0 [.nilIface, .int .i64 0]⟩ := by rw [← hH]; simp (maxSteps := 9999999) (disch := first | omega | (simp only [hN] <;> omega) | fail) only [go_sem, simprocAttr]
    have hHr : H.get h1.n = some ⟨0, .cells .own 0 [v1, .int .i64 (s.length : Int), .int .i64 0]⟩ := by rw [← hH]; simp (maxSteps := 9999999) (disch := first | omega | (simp only [hN] <;> omega) | fail) only [go_sem, simprocAttr]
    have ht : TokR H h1.n ts v1 := by
      obtain ⟨_, ⟨h0, rfl⟩ | ⟨hpos, b, ver, rfl, hb1, hb2, hb3⟩⟩ := hts1
      · exact .inl ⟨List.length_eq_zero_iff.1 h0, rfl⟩
      · simp only [AHeap.alloc_n] at hb1
        exact .inr ⟨b, ver, 0, ts, by simp, hb2, by rw [hH1 _ hb2 (by omega)]; exact hb3, rfl⟩
    have hn0 := hG.n
    have hGH : GH H := (show Fr (h.n + 1) h1 H from ⟨by omega, fun b hb hne => hH1 b hb hne⟩).gh (by omega) hG1
    have hpH : PInv H h1.n s.length ts 0 := ⟨hGH, by omega, by omega, by omega, 0, v1, hHr, ht⟩
    have q4 : H.get h.n = some ⟨0, .cells .own 0 zN⟩ := by rw [hH1 _ (by omega) (by omega)]; exact q4
    have hf : ∀ b', b' < h.n → H.get b' = h.get b' := fun b' hb' => by rw [hH1 _ (by omega) (by omega)]; exact hf _ hb'
    generalize h1.n = r at *
    clear hH hH1 hHr ht ht0 hG1 hf1 hts1 hGH
    have hfine := hF s.length ts.length 0 ts (Nat.le_refl _)
    simp only [List.nil_append, List.append_nil]
    refine hP s.length (ts.length + 1) hpH ?_ ?_
    · intro e; rw [e] at hfine; rcases hfine with h | h <;> exact absurd h (by decide)
    cases hx : p s.length (ts.length + 1) 0 ts with
    | error x =>
      obtain ⟨e, q⟩ := x
      rw [hx] at hQ
      intro h2 hf2
      have hn2 := hf2.n; try simp only [AHeap.alloc_n, AHeap.upd_n] at hn2
      have q42 : h2.get h.n = some ⟨0, .cells .own 0 zN⟩ := by rw [hf2.old _ (by omega) (by omega)]; exact q4
      have q52 : h2.get (h.n + 1) = some ⟨1, .cells .own 0 [.nilIface, .int .i64 0]⟩ := by rw [hf2.old _ (by omega) (by omega)]; exact hH5
      simp (maxSteps := 9999999) (disch := first | omega | (simp only [hN] <;> omega) | fail) only [go_sem, simprocAttr, List.append_nil, List.nil_append]
      refine trecover_stop (n := .mk 0 0 [] 0 0 0 0 0 []) q42 q52 (by omega) (by omega) (by omega) ?_
      rintro h3 hn3 hf3 ⟨v3, q43⟩ ⟨v4, q53⟩
      simp (maxSteps := 9999999) (disch := first | omega | (simp only [hN] <;> omega) | fail) only [go_sem, simprocAttr, q43, q53]
      refine hQ _ ⟨by omega, fun b hb _ => ?_⟩
      rw [hf3 _ (by omega) (by omega) (by omega), hf2.old _ (by omega) (by omega)]
      exact hf _ hb
    | ok y =>
      obtain ⟨n, ts'⟩ := y
      rw [hx] at hQ
      intro h2 kv hf2 hp2 hk2
      have hn2 := hf2.n; try simp only [AHeap.alloc_n, AHeap.upd_n] at hn2
      have q42 : h2.get h.n = some ⟨0, .cells .own 0 zN⟩ := by rw [hf2.old _ (by omega) (by omega)]; exact q4
      have q52 : h2.get (h.n + 1) = some ⟨1, .cells .own 0 [.nilIface, .int .i64 0]⟩ := by rw [hf2.old _ (by omega) (by omega)]; exact hH5
      obtain ⟨vr, v, hr, htr⟩ := hp2.st
      have hlt2 := hp2.hi
      simp (maxSteps := 9999999) (disch := first | omega | (simp only [hN] <;> omega) | fail) only [go_sem, simprocAttr, q42, q52, hk2.flat.1, hk2.flat.2, hr, htr.len]
      cases ts' with
      | nil =>
        have c0 : decide ((0 : Int) > 0) = false := rfl
        simp (maxSteps := 9999999) (disch := first | omega | (simp only [hN] <;> omega) | fail) only [go_sem, simprocAttr, List.length_nil, Int.natCast_zero, c0, q42, q52, hk2.flat.1, hk2.flat.2]
        refine trecover_ret ?_
        simp (maxSteps := 9999999) (disch := first | omega | (simp only [hN] <;> omega) | fail) only [go_sem, simprocAttr, q42, q52, hk2.flat.1, hk2.flat.2]
        refine hQ _ kv ⟨by (first | omega | (simp only [AHeap.alloc_n, AHeap.upd_n]; omega)), fun b hb hne => by (try simp only [AHeap.alloc_n, AHeap.upd_n] at hb hne); simp (maxSteps := 9999999) (disch := first | omega | (simp only [hN] <;> omega) | fail) only [go_sem, simprocAttr, hf2.old, hf]⟩ (hk2.keep (by omega) (by simp (maxSteps := 9999999) (disch := first | omega | (simp only [hN] <;> omega) | fail) only [go_sem, simprocAttr]; exact Nat.le_refl _) fun b hb1 hb2 => by simp (maxSteps := 9999999) (disch := first | omega | (simp only [hN] <;> omega) | fail) only [go_sem, simprocAttr])
      | cons t ts' =>
        have c1 : decide (((ts'.length + 1 : Nat) : Int) > 0) = true := decide_eq_true (by omega)
        simp (maxSteps := 9999999) (disch := first | omega | (simp only [hN] <;> omega) | fail) only [go_sem, simprocAttr, c1]
        refine wrong_tok (hp2.loc (by omega) (by omega) q42) ?_
        intro h3 hf3
        have hn3 := hf3.n; try simp only [AHeap.alloc_n, AHeap.upd_n] at hn3
        have q43 : h3.get h.n = some ⟨1, .cells .own 0 (ndC n kv)⟩ := by simp (maxSteps := 9999999) (disch := first | omega | (simp only [hN] <;> omega) | fail) only [go_sem, simprocAttr, hf3.old]
        have q53 : h3.get (h.n + 1) = some ⟨1, .cells .own 0 [.nilIface, .int .i64 0]⟩ := by rw [hf3.old _ (by simp (maxSteps := 9999999) (disch := first | omega | (simp only [hN] <;> omega) | fail) only [go_sem, simprocAttr]; omega) (by simp (maxSteps := 9999999) (disch := first | omega | (simp only [hN] <;> omega) | fail) only [go_sem, simprocAttr]; omega), AHeap.get_upd, if_neg (by omega)]; exact q52
        simp (maxSteps := 9999999) (disch := first | omega | (simp only [hN] <;> omega) | fail) only [go_sem, simprocAttr, List.append_nil, List.nil_append]
        refine trecover_stop (n := n) q43 q53 (by omega) (by omega) (by omega) ?_
        rintro h4 hn4 hf4 ⟨v3, q44⟩ ⟨v4, q54⟩
        simp (maxSteps := 9999999) (disch := first | omega | (simp only [hN] <;> omega) | fail) only [go_sem, simprocAttr, q44, q54]
        refine hQ _ ⟨by omega, fun b hb _ => ?_⟩
        rw [hf4 _ (by omega) (by omega) (by omega), hf3.old _ (by simp (maxSteps := 9999999) (disch := first | omega | (simp only [hN] <;> omega) | fail) only [go_sem, simprocAttr]; omega) (by simp (maxSteps := 9999999) (disch := first | omega | (simp only [hN] <;> omega) | fail) only [go_sem, simprocAttr]; omega), AHeap.get_upd, if_neg (by omega), hf2.old _ (by omega) (by omega)]
        exact hf _ hb
theorem expr_read {s : Bs} (hlen : s.length < 2 ^ 62) {h : AHeap} (hG : GH h) {Q : QR} (hQ : ReadQ h Q (exprS s)) : WF F 19 [.str s] h Q := by
  refine WF.code F19 rfl ?_
  simp (maxSteps := 9999999) (disch := first | omega | (simp only [hN] <;> omega) | fail) only [go_sem, simprocAttr]
  refine read_tok (p := exprP) (fun E f => exprOf_tok (unary_tok f)) (fun E f => exprP_fine f) hlen ((hG.alloc _).alloc _) ?_
  change ReadQ _ _ (exprS s)
  cases hx : exprS s with
  | error x =>
    obtain ⟨e, q⟩ := x
    rw [hx] at hQ
    intro h1 hf1
    have hn1 := hf1.n; try simp only [AHeap.alloc_n, AHeap.upd_n] at hn1
    simp (maxSteps := 9999999) (disch := first | omega | (simp only [hN] <;> omega) | fail) only [go_sem, simprocAttr, hf1.old]
    exact hQ _ ⟨by (first | omega | (simp only [AHeap.alloc_n, AHeap.upd_n]; omega)), fun b hb hne => by (try simp only [AHeap.alloc_n, AHeap.upd_n] at hb hne); simp (maxSteps := 9999999) (disch := first | omega | (simp only [hN] <;> omega) | fail) only [go_sem, simprocAttr, hf1.old]⟩
  | ok n =>
    rw [hx] at hQ
    intro h1 kv hf1 hk1
    have hn1 := hf1.n; try simp only [AHeap.alloc_n, AHeap.upd_n] at hn1
    simp (maxSteps := 9999999) (disch := first | omega | (simp only [hN] <;> omega) | fail) only [go_sem, simprocAttr, hf1.old, hk1.flat.1, hk1.flat.2]
    exact hQ _ kv ⟨by (first | omega | (simp only [AHeap.alloc_n, AHeap.upd_n]; omega)), fun b hb hne => by (try simp only [AHeap.alloc_n, AHeap.upd_n] at hb hne); simp (maxSteps := 9999999) (disch := first | omega | (simp only [hN] <;> omega) | fail) only [go_sem, simprocAttr, hf1.old]⟩ (hk1.keep (by simp (maxSteps := 9999999) (disch := first | omega | (simp only [hN] <;> omega) | fail) only [go_sem, simprocAttr]; omega) (by simp (maxSteps := 9999999) (disch := first | omega | (simp only [hN] <;> omega) | fail) only [go_sem, simprocAttr]; exact Nat.le_refl _) fun b hb1 hb2 => by simp only [AHeap.alloc_n] at hb1; simp (maxSteps := 9999999) (disch := first | omega | (simp only [hN] <;> omega) | fail) only [go_sem, simprocAttr])
end Go.Ev
