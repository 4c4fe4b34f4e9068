/- The tree's reader: is, wrong, must, take, maybe, open, close. -/
import Derived.Test.YtccenddkgeglmaaDoorBK20
set_option linter.all false
set_option linter.unusedVariables false
set_option linter.unusedSimpArgs false
namespace Go.Ev
open Go
set_option maxRecDepth 100000
set_option maxHeartbeats 4000000

attribute [go_sem] treeStop
theorem is_tok {E r lv b ver cap : Nat} {ws : List Bs} {ex : Bool} {md : Md} {ts : List Tok} {h : AHeap} (hp : PInv h r E ts lv) (hb : h.get b = some ⟨ver, .cells md 1 (ws.map .str)⟩) (hbn : b < h.n) (hl : ws.length < 2 ^ 62) {Q : QR} (hQ : ∀ h', Fr h.n h h' → Q (.ret (.bool (isT ws ts))) h') : WF F 79 [.ptr r 0, .slice b 0 ws.length cap ex] h Q := by
  refine WF.code F79 rfl ?_
  simp (maxSteps := 9999999) (disch := first | omega | (simp only [hN] <;> omega) | fail) only [go_sem, simprocAttr]
  refine here_tok hp ?_
  intro h1 hf1
  have hn1 := hf1.n; try simp only [AHeap.alloc_n, AHeap.upd_n] at hn1
  have hb1 : h1.get b = some ⟨ver, .cells md 1 (ws.map .str)⟩ := by rw [hf1.all hbn]; exact hb
  simp (maxSteps := 9999999) (disch := first | omega | (simp only [hN] <;> omega) | fail) only [go_sem, simprocAttr, tokAV]
  cases ts with
  | nil =>
    simp (maxSteps := 9999999) (disch := first | omega | (simp only [hN] <;> omega) | fail) only [go_sem, simprocAttr, hdT]
    exact hQ _ ⟨by (first | omega | (simp only [AHeap.alloc_n, AHeap.upd_n]; omega)), fun b hb hne => by (try simp only [AHeap.alloc_n, AHeap.upd_n] at hb hne); simp (maxSteps := 9999999) (disch := first | omega | (simp only [hN] <;> omega) | fail) only [go_sem, simprocAttr, hf1.old]⟩
  | cons t ts =>
    simp (maxSteps := 9999999) (disch := first | omega | (simp only [hN] <;> omega) | fail) only [go_sem, simprocAttr, hdT]
    by_cases k2 : t.kind = 2
    · have e : ((t.kind : Int) == 2) = true := by simp [k2]
      simp (maxSteps := 9999999) (disch := first | omega | (simp only [hN] <;> omega) | fail) only [go_sem, simprocAttr, e]
      refine sContains (ws := ws) (ver := ver) (md := md) (by rw [AHeap.get_upd, AHeap.get_alloc]; simp only [if_neg (show ¬ b = h1.n by omega)]; exact hb1) hl ?_
      simp (maxSteps := 9999999) (disch := first | omega | (simp only [hN] <;> omega) | fail) only [go_sem, simprocAttr]
      have e2 : isT ws (t :: ts) = ws.contains t.text := by simp [isT, k2]
      rw [← e2]
      exact hQ _ ⟨by (first | omega | (simp only [AHeap.alloc_n, AHeap.upd_n]; omega)), fun b hb hne => by (try simp only [AHeap.alloc_n, AHeap.upd_n] at hb hne); simp (maxSteps := 9999999) (disch := first | omega | (simp only [hN] <;> omega) | fail) only [go_sem, simprocAttr, hf1.old]⟩
    · have e : ((t.kind : Int) == 2) = false := by simpa using fun h : (t.kind : Int) = 2 => k2 (by omega)
      by_cases k5 : t.kind = 5
      · have e5 : ((t.kind : Int) == 5) = true := by simp [k5]
        simp (maxSteps := 9999999) (disch := first | omega | (simp only [hN] <;> omega) | fail) only [go_sem, simprocAttr, e, e5]
        refine sContains (ws := ws) (ver := ver) (md := md) (by rw [AHeap.get_upd, AHeap.get_alloc]; simp only [if_neg (show ¬ b = h1.n by omega)]; exact hb1) hl ?_
        simp (maxSteps := 9999999) (disch := first | omega | (simp only [hN] <;> omega) | fail) only [go_sem, simprocAttr]
        have e2 : isT ws (t :: ts) = ws.contains t.text := by simp [isT, k5]
        rw [← e2]
        exact hQ _ ⟨by (first | omega | (simp only [AHeap.alloc_n, AHeap.upd_n]; omega)), fun b hb hne => by (try simp only [AHeap.alloc_n, AHeap.upd_n] at hb hne); simp (maxSteps := 9999999) (disch := first | omega | (simp only [hN] <;> omega) | fail) only [go_sem, simprocAttr, hf1.old]⟩
      · have e5 : ((t.kind : Int) == 5) = false := by simpa using fun h : (t.kind : Int) = 5 => k5 (by omega)
        simp (maxSteps := 9999999) (disch := first | omega | (simp only [hN] <;> omega) | fail) only [go_sem, simprocAttr, e, e5]
        have e2 : isT ws (t :: ts) = false := by simp [isT, k2, k5]
        rw [← e2]
        exact hQ _ ⟨by (first | omega | (simp only [AHeap.alloc_n, AHeap.upd_n]; omega)), fun b hb hne => by (try simp only [AHeap.alloc_n, AHeap.upd_n] at hb hne); simp (maxSteps := 9999999) (disch := first | omega | (simp only [hN] <;> omega) | fail) only [go_sem, simprocAttr, hf1.old]⟩
theorem wrong_tok {E r lv : Nat} {ts : List Tok} {h : AHeap} (hp : PInv h r E ts lv) {Q : QR} (hQ : ∀ h', Fr h.n h h' → Q (treeStop 2 (hdT E ts).pos) h') : WF F 64 [.ptr r 0] h Q := by
  refine WF.code F64 rfl ?_
  simp (maxSteps := 9999999) (disch := first | omega | (simp only [hN] <;> omega) | fail) only [go_sem, simprocAttr, hp.gh.g2]
  refine here_tok hp ?_
  intro h1 hf1
  have hn1 := hf1.n; try simp only [AHeap.alloc_n, AHeap.upd_n] at hn1
  have hn0 := hp.gh.n
  have q : h1.get 2 = h.get 2 := hf1.all (by omega)
  simp (maxSteps := 9999999) (disch := first | omega | (simp only [hN] <;> omega) | fail) only [go_sem, simprocAttr, tokAV, q]
  exact hQ _ hf1
/-- The step to the next token. -/
theorem TokR.slc {h : AHeap} {r : Nat} {ts : List Tok} {v : AV} (t : TokR h r ts v) (hne : ts ≠ []) : ∃ b o ver cs, v = .slice b o ts.length ts.length false ∧ h.get b = some ⟨ver, .cells .own 5 cs⟩ ∧ b < r ∧ TokR h r ts.tail (.slice b (o + 5) (ts.length - 1) (ts.length - 1) false) := by
  rcases t with ⟨rfl, rfl⟩ | ⟨b, ver2, k, all, rfl, hb, hc, hd⟩
  · exact absurd rfl hne
  · refine ⟨b, _, _, _, rfl, hc, hb, .inr ⟨b, ver2, k + 1, all, ?_, hb, hc, ?_⟩⟩
    · rw [List.length_tail, Nat.add_mul]
    · rw [← List.tail_drop, hd]
theorem take_tok {E r lv k : Nat} {ts : List Tok} {h : AHeap} (hp : PInv h r E ts lv) (hk : k ≠ 0) {Q : QR}
    (hQ : if (hdT E ts).kind = k then ∀ h', Fr r h h' → PInv h' r E ts.tail lv → Q (.ret (tokAV (hdT E ts))) h' else ∀ h', Fr r h h' → Q (treeStop 2 (hdT E ts).pos) h') : WF F 80 [.ptr r 0, .int .i64 (k : Int)] h Q := by
  refine WF.code F80 rfl ?_
  have hlt := hp.hi
  simp (maxSteps := 9999999) (disch := first | omega | (simp only [hN] <;> omega) | fail) only [go_sem, simprocAttr]
  have hp0 := hp.fr (Fr.alloc (Fr.refl h.n h) (.cells .own 0 [.int .i64 0, .str [], .int .i64 0, .int .u64 0, .int .i64 0]))
  refine here_tok hp0 ?_
  intro h1 hf1
  have hn1 := hf1.n; try simp only [AHeap.alloc_n, AHeap.upd_n] at hn1
  simp (maxSteps := 9999999) (disch := first | omega | (simp only [hN] <;> omega) | fail) only [go_sem, simprocAttr, tokAV]
  by_cases hh : (hdT E ts).kind = k
  · rw [if_pos hh] at hQ
    have e : (((hdT E ts).kind : Int) != (k : Int)) = false := by simp [hh]
    obtain ⟨ver, v, hr, ht⟩ := hp.st
    obtain ⟨b, o, ver2, cs, rfl, hc, hb, ht'⟩ := ht.slc (hdT_ne (E := E) (by omega))
    have hpos : 0 < ts.length := List.length_pos_iff.2 (hdT_ne (E := E) (by omega))
    have c1 : bnd (some (.int .i64 1)) 0 ts.length = some 1 := bnd_num (i := 1) (by omega)
    have c2 : ts.length.beq 0 = false := by rw [beq_nat]; exact decide_eq_false (by omega)
    have q1 : h1.get r = some ⟨ver, .cells .own 0 [.slice b o ts.length ts.length false, .int .i64 (E : Int), .int .i64 (lv : Int)]⟩ := by rw [hf1.all (by simp (maxSteps := 9999999) (disch := first | omega | (simp only [hN] <;> omega) | fail) only [go_sem, simprocAttr]; omega), AHeap.get_alloc, if_neg (by omega)]; exact hr
    have q2 : h1.get b = some ⟨ver2, .cells .own 5 cs⟩ := by rw [hf1.all (by simp (maxSteps := 9999999) (disch := first | omega | (simp only [hN] <;> omega) | fail) only [go_sem, simprocAttr]; omega), AHeap.get_alloc, if_neg (by omega)]; exact hc
    have q3 := hf1.all (b := h.n) (by simp (maxSteps := 9999999) (disch := first | omega | (simp only [hN] <;> omega) | fail) only [go_sem, simprocAttr]; omega)
    rw [AHeap.get_alloc, if_pos rfl] at q3
    have g1 : (h.n = r) = False := by simp; omega
    have g2 : (h1.n = r) = False := by simp; omega
    have g3 : (h1.n = b) = False := by simp; omega
    simp (maxSteps := 9999999) (disch := first | omega | (simp only [hN] <;> omega) | fail) only [go_sem, simprocAttr, e, q1, q2, q3, c1, c2, Option.isSome_none, Bool.and_false, cond_false]
    have hf : ∀ b', b' < h.n → h1.get b' = h.get b' := fun b' hb' => by rw [hf1.all (by simp (maxSteps := 9999999) (disch := first | omega | (simp only [hN] <;> omega) | fail) only [go_sem, simprocAttr]; omega), AHeap.get_alloc, if_neg (by omega)]
    refine hQ _ ?_ ?_
    · exact ⟨by (first | omega | (simp only [AHeap.alloc_n, AHeap.upd_n]; omega)), fun b hb hne => by (try simp only [AHeap.alloc_n, AHeap.upd_n] at hb hne); simp (maxSteps := 9999999) (disch := first | omega | (simp only [hN] <;> omega) | fail) only [go_sem, simprocAttr, hf]⟩
    · exact hp.step (ver := ver + 1) ⟨by (first | omega | (simp only [AHeap.alloc_n, AHeap.upd_n]; omega)), fun b hb hne => by (try simp only [AHeap.alloc_n, AHeap.upd_n] at hb hne); simp (maxSteps := 9999999) (disch := first | omega | (simp only [hN] <;> omega) | fail) only [go_sem, simprocAttr, hf]⟩ (by simp (maxSteps := 9999999) (disch := first | omega | (simp only [hN] <;> omega) | fail) only [go_sem, simprocAttr]) ht' hp.lvl
  · rw [if_neg hh] at hQ
    have e : (((hdT E ts).kind : Int) != (k : Int)) = true := by simp; omega
    simp (maxSteps := 9999999) (disch := first | omega | (simp only [hN] <;> omega) | fail) only [go_sem, simprocAttr, e]
    refine wrong_tok (hp.fr (ts := ts) (h' := (h1.alloc (.cells .own 0 [.int .i64 0, .str [], .int .i64 0, .int .u64 0, .int .i64 0])).upd h1.n 1 (.cells .own 0 [.int .i64 ((hdT E ts).kind : Int), .str (hdT E ts).text, .int .i64 ((hdT E ts).n : Int), .int .u64 ((hdT E ts).bits : Int), .int .i64 ((hdT E ts).pos : Int)])) ⟨by (first | omega | (simp only [AHeap.alloc_n, AHeap.upd_n]; omega)), fun b hb hne => by (try simp only [AHeap.alloc_n, AHeap.upd_n] at hb hne); simp (maxSteps := 9999999) (disch := first | omega | (simp only [hN] <;> omega) | fail) only [go_sem, simprocAttr, hf1.old]⟩) ?_
    intro h2 hf2
    have hn2 := hf2.n; try simp only [AHeap.alloc_n, AHeap.upd_n] at hn2
    simp (maxSteps := 9999999) (disch := first | omega | (simp only [hN] <;> omega) | fail) only [go_sem, simprocAttr]
    exact hQ _ ⟨by (first | omega | (simp only [AHeap.alloc_n, AHeap.upd_n]; omega)), fun b hb hne => by (try simp only [AHeap.alloc_n, AHeap.upd_n] at hb hne); simp (maxSteps := 9999999) (disch := first | omega | (simp only [hN] <;> omega) | fail) only [go_sem, simprocAttr, hf2.old, hf1.old]⟩
theorem must_tok {E r lv : Nat} {w : Bs} {ts : List Tok} {h : AHeap} (hp : PInv h r E ts lv) {Q : QR}
    (hQ : if isT [w] ts = true then ∀ h', Fr r h h' → PInv h' r E ts.tail lv → Q (.ret (tokAV (hdT E ts))) h' else ∀ h', Fr r h h' → Q (treeStop 2 (hdT E ts).pos) h') : WF F 85 [.ptr r 0, .str w] h Q := by
  refine WF.code F85 rfl ?_
  have hlt := hp.hi
  simp (maxSteps := 9999999) (disch := first | omega | (simp only [hN] <;> omega) | fail) only [go_sem, simprocAttr]
  refine is_tok (ws := [w]) (md := .own) (ver := 0) (E := E) (ts := ts) (lv := lv) (hp.fr ⟨by (first | omega | (simp only [AHeap.alloc_n, AHeap.upd_n]; omega)), fun b hb hne => by (try simp only [AHeap.alloc_n, AHeap.upd_n] at hb hne); simp (maxSteps := 9999999) (disch := first | omega | (simp only [hN] <;> omega) | fail) only [go_sem, simprocAttr]⟩) (by (first | (simp (maxSteps := 9999999) (disch := first | omega | (simp only [hN] <;> omega) | fail) only [go_sem, simprocAttr, List.map]; done) | (simp (maxSteps := 9999999) (disch := first | omega | (simp only [hN] <;> omega) | fail) only [go_sem, simprocAttr, List.map]; rfl))) (by simp (maxSteps := 9999999) (disch := first | omega | (simp only [hN] <;> omega) | fail) only [go_sem, simprocAttr]; omega) (show 1 < 2 ^ 62 by decide) ?_
  intro h1 hf1
  have hn1 := hf1.n; try simp only [AHeap.alloc_n, AHeap.upd_n] at hn1
  simp (maxSteps := 9999999) (disch := first | omega | (simp only [hN] <;> omega) | fail) only [go_sem, simprocAttr]
  by_cases hh : isT [w] ts = true
  · rw [if_pos hh] at hQ
    obtain ⟨ver, v, hr, ht⟩ := hp.st
    obtain ⟨b, o, ver2, cs, rfl, hc, hb, ht'⟩ := ht.slc (isT_ne hh)
    have hpos : 0 < ts.length := List.length_pos_iff.2 (isT_ne hh)
    have c1 : bnd (some (.int .i64 1)) 0 ts.length = some 1 := bnd_num (i := 1) (by omega)
    have c2 : ts.length.beq 0 = false := by rw [beq_nat]; exact decide_eq_false (by omega)
    simp (maxSteps := 9999999) (disch := first | omega | (simp only [hN] <;> omega) | fail) only [go_sem, simprocAttr, hh]
    refine here_tok (hp.fr (ts := ts) (h' := h1) ⟨by (first | omega | (simp only [AHeap.alloc_n, AHeap.upd_n]; omega)), fun b hb hne => by (try simp only [AHeap.alloc_n, AHeap.upd_n] at hb hne); simp (maxSteps := 9999999) (disch := first | omega | (simp only [hN] <;> omega) | fail) only [go_sem, simprocAttr, hf1.old]⟩) ?_
    intro h2 hf2
    have hn2 := hf2.n; try simp only [AHeap.alloc_n, AHeap.upd_n] at hn2
    have hf : ∀ b', b' < h.n → h2.get b' = h.get b' := fun b' hb' => by simp (maxSteps := 9999999) (disch := first | omega | (simp only [hN] <;> omega) | fail) only [go_sem, simprocAttr, hf2.old, hf1.old]
    have q1 := (hf r (by omega)).trans hr
    have q2 := (hf b (by omega)).trans hc
    have q3 : h2.get h.n = some ⟨0, .cells .own 0 [.int .i64 0, .str [], .int .i64 0, .int .u64 0, .int .i64 0]⟩ := by simp (maxSteps := 9999999) (disch := first | omega | (simp only [hN] <;> omega) | fail) only [go_sem, simprocAttr, hf2.old, hf1.old]
    have g1 : (h.n = r) = False := by simp; omega
    have g2 : (h2.n = r) = False := by simp; omega
    have g3 : (h2.n = b) = False := by simp; omega
    simp (maxSteps := 9999999) (disch := first | omega | (simp only [hN] <;> omega) | fail) only [go_sem, simprocAttr, tokAV, q1, q2, q3, c1, c2, Option.isSome_none, Bool.and_false, cond_false]
    refine hQ _ ?_ ?_
    · exact ⟨by (first | omega | (simp only [AHeap.alloc_n, AHeap.upd_n]; omega)), fun b hb hne => by (try simp only [AHeap.alloc_n, AHeap.upd_n] at hb hne); simp (maxSteps := 9999999) (disch := first | omega | (simp only [hN] <;> omega) | fail) only [go_sem, simprocAttr, hf]⟩
    · exact hp.step (ver := ver + 1) ⟨by (first | omega | (simp only [AHeap.alloc_n, AHeap.upd_n]; omega)), fun b hb hne => by (try simp only [AHeap.alloc_n, AHeap.upd_n] at hb hne); simp (maxSteps := 9999999) (disch := first | omega | (simp only [hN] <;> omega) | fail) only [go_sem, simprocAttr, hf]⟩ (by simp (maxSteps := 9999999) (disch := first | omega | (simp only [hN] <;> omega) | fail) only [go_sem, simprocAttr]) ht' hp.lvl
  · rw [if_neg hh] at hQ
    have hh' : isT [w] ts = false := by simpa using hh
    simp (maxSteps := 9999999) (disch := first | omega | (simp only [hN] <;> omega) | fail) only [go_sem, simprocAttr, hh']
    refine wrong_tok (hp.fr (ts := ts) (h' := h1) ⟨by (first | omega | (simp only [AHeap.alloc_n, AHeap.upd_n]; omega)), fun b hb hne => by (try simp only [AHeap.alloc_n, AHeap.upd_n] at hb hne); simp (maxSteps := 9999999) (disch := first | omega | (simp only [hN] <;> omega) | fail) only [go_sem, simprocAttr, hf1.old]⟩) ?_
    intro h2 hf2
    have hn2 := hf2.n; try simp only [AHeap.alloc_n, AHeap.upd_n] at hn2
    simp (maxSteps := 9999999) (disch := first | omega | (simp only [hN] <;> omega) | fail) only [go_sem, simprocAttr]
    exact hQ _ ⟨by (first | omega | (simp only [AHeap.alloc_n, AHeap.upd_n]; omega)), fun b hb hne => by (try simp only [AHeap.alloc_n, AHeap.upd_n] at hb hne); simp (maxSteps := 9999999) (disch := first | omega | (simp only [hN] <;> omega) | fail) only [go_sem, simprocAttr, hf2.old, hf1.old]⟩
theorem maybe_tok {E r lv : Nat} {w : Bs} {ts : List Tok} {h : AHeap} (hp : PInv h r E ts lv) {Q : QR}
    (hQ : if isT [w] ts = true then ∀ h', Fr r h h' → PInv h' r E ts.tail lv → Q (.ret (.bool true)) h' else ∀ h', Fr h.n h h' → Q (.ret (.bool false)) h') : WF F 101 [.ptr r 0, .str w] h Q := by
  refine WF.code F101 rfl ?_
  have hlt := hp.hi
  simp (maxSteps := 9999999) (disch := first | omega | (simp only [hN] <;> omega) | fail) only [go_sem, simprocAttr]
  refine is_tok (ws := [w]) (md := .own) (ver := 0) (E := E) (ts := ts) (lv := lv) (hp.fr ⟨by (first | omega | (simp only [AHeap.alloc_n, AHeap.upd_n]; omega)), fun b hb hne => by (try simp only [AHeap.alloc_n, AHeap.upd_n] at hb hne); simp (maxSteps := 9999999) (disch := first | omega | (simp only [hN] <;> omega) | fail) only [go_sem, simprocAttr]⟩) (by (first | (simp (maxSteps := 9999999) (disch := first | omega | (simp only [hN] <;> omega) | fail) only [go_sem, simprocAttr, List.map]; done) | (simp (maxSteps := 9999999) (disch := first | omega | (simp only [hN] <;> omega) | fail) only [go_sem, simprocAttr, List.map]; rfl))) (by simp (maxSteps := 9999999) (disch := first | omega | (simp only [hN] <;> omega) | fail) only [go_sem, simprocAttr]; omega) (show 1 < 2 ^ 62 by decide) ?_
  intro h1 hf1
  have hn1 := hf1.n; try simp only [AHeap.alloc_n, AHeap.upd_n] at hn1
  simp (maxSteps := 9999999) (disch := first | omega | (simp only [hN] <;> omega) | fail) only [go_sem, simprocAttr]
  have hf : ∀ b', b' < h.n → h1.get b' = h.get b' := fun b' hb' => by simp (maxSteps := 9999999) (disch := first | omega | (simp only [hN] <;> omega) | fail) only [go_sem, simprocAttr, hf1.old]
  by_cases hh : isT [w] ts = true
  · rw [if_pos hh] at hQ
    obtain ⟨ver, v, hr, ht⟩ := hp.st
    obtain ⟨b, o, ver2, cs, rfl, hc, hb, ht'⟩ := ht.slc (isT_ne hh)
    have hpos : 0 < ts.length := List.length_pos_iff.2 (isT_ne hh)
    have c1 : bnd (some (.int .i64 1)) 0 ts.length = some 1 := bnd_num (i := 1) (by omega)
    have c2 : ts.length.beq 0 = false := by rw [beq_nat]; exact decide_eq_false (by omega)
    have q1 := (hf r (by omega)).trans hr
    have q2 := (hf b (by omega)).trans hc
    simp (maxSteps := 9999999) (disch := first | omega | (simp only [hN] <;> omega) | fail) only [go_sem, simprocAttr, hh, q1, q2, c1, c2, Option.isSome_none, Bool.and_false, cond_false]
    refine hQ _ ?_ ?_
    · exact ⟨by (first | omega | (simp only [AHeap.alloc_n, AHeap.upd_n]; omega)), fun b hb hne => by (try simp only [AHeap.alloc_n, AHeap.upd_n] at hb hne); simp (maxSteps := 9999999) (disch := first | omega | (simp only [hN] <;> omega) | fail) only [go_sem, simprocAttr, hf]⟩
    · exact hp.step (ver := ver + 1) ⟨by (first | omega | (simp only [AHeap.alloc_n, AHeap.upd_n]; omega)), fun b hb hne => by (try simp only [AHeap.alloc_n, AHeap.upd_n] at hb hne); simp (maxSteps := 9999999) (disch := first | omega | (simp only [hN] <;> omega) | fail) only [go_sem, simprocAttr, hf]⟩ (by simp (maxSteps := 9999999) (disch := first | omega | (simp only [hN] <;> omega) | fail) only [go_sem, simprocAttr]) ht' hp.lvl
  · rw [if_neg hh] at hQ
    have hh' : isT [w] ts = false := by simpa using hh
    simp (maxSteps := 9999999) (disch := first | omega | (simp only [hN] <;> omega) | fail) only [go_sem, simprocAttr, hh']
    exact hQ _ ⟨by (first | omega | (simp only [AHeap.alloc_n, AHeap.upd_n]; omega)), fun b hb hne => by (try simp only [AHeap.alloc_n, AHeap.upd_n] at hb hne); simp (maxSteps := 9999999) (disch := first | omega | (simp only [hN] <;> omega) | fail) only [go_sem, simprocAttr, hf]⟩
theorem open_tok {E r lv : Nat} {w : Bs} {ts : List Tok} {h : AHeap} (hp : PInv h r E ts lv) {Q : QR}
    (hQ : if isT [w] ts = true then (if lv = 16 then ∀ h', Fr r h h' → Q (treeStop 3 (hdT E ts).pos) h' else ∀ h', Fr r h h' → PInv h' r E ts.tail (lv + 1) → Q (.ret (tokAV (hdT E ts))) h') else ∀ h', Fr r h h' → Q (treeStop 2 (hdT E ts).pos) h') : WF F 102 [.ptr r 0, .str w] h Q := by
  refine WF.code F102 rfl ?_
  have hlt := hp.hi
  have hlv := hp.lvl
  have hn0 := hp.gh.n
  simp (maxSteps := 9999999) (disch := first | omega | (simp only [hN] <;> omega) | fail) only [go_sem, simprocAttr]
  refine is_tok (ws := [w]) (md := .own) (ver := 0) (E := E) (ts := ts) (lv := lv) (hp.fr ⟨by (first | omega | (simp only [AHeap.alloc_n, AHeap.upd_n]; omega)), fun b hb hne => by (try simp only [AHeap.alloc_n, AHeap.upd_n] at hb hne); simp (maxSteps := 9999999) (disch := first | omega | (simp only [hN] <;> omega) | fail) only [go_sem, simprocAttr]⟩) (by (first | (simp (maxSteps := 9999999) (disch := first | omega | (simp only [hN] <;> omega) | fail) only [go_sem, simprocAttr, List.map]; done) | (simp (maxSteps := 9999999) (disch := first | omega | (simp only [hN] <;> omega) | fail) only [go_sem, simprocAttr, List.map]; rfl))) (by simp (maxSteps := 9999999) (disch := first | omega | (simp only [hN] <;> omega) | fail) only [go_sem, simprocAttr]; omega) (show 1 < 2 ^ 62 by decide) ?_
  intro h1 hf1
  have hn1 := hf1.n; try simp only [AHeap.alloc_n, AHeap.upd_n] at hn1
  have hf : ∀ b', b' < h.n → h1.get b' = h.get b' := fun b' hb' => by simp (maxSteps := 9999999) (disch := first | omega | (simp only [hN] <;> omega) | fail) only [go_sem, simprocAttr, hf1.old]
  have hp1 : PInv h1 r E ts lv := hp.fr ⟨by (first | omega | (simp only [AHeap.alloc_n, AHeap.upd_n]; omega)), fun b hb hne => by (try simp only [AHeap.alloc_n, AHeap.upd_n] at hb hne); simp (maxSteps := 9999999) (disch := first | omega | (simp only [hN] <;> omega) | fail) only [go_sem, simprocAttr, hf]⟩
  obtain ⟨ver, v, hr, ht⟩ := hp.st
  have q1 := (hf r (by omega)).trans hr
  simp (maxSteps := 9999999) (disch := first | omega | (simp only [hN] <;> omega) | fail) only [go_sem, simprocAttr]
  by_cases hh : isT [w] ts = true
  · rw [if_pos hh] at hQ
    by_cases h16 : lv = 16
    · rw [if_pos h16] at hQ
      have e : ((lv : Int) == 16) = true := by simp [h16]
      simp (maxSteps := 9999999) (disch := first | omega | (simp only [hN] <;> omega) | fail) only [go_sem, simprocAttr, hh, q1, e, hp1.gh.g3]
      refine here_tok hp1 ?_
      intro h2 hf2
      have hn2 := hf2.n; try simp only [AHeap.alloc_n, AHeap.upd_n] at hn2
      have q : h2.get 3 = h1.get 3 := hf2.all (by omega)
      simp (maxSteps := 9999999) (disch := first | omega | (simp only [hN] <;> omega) | fail) only [go_sem, simprocAttr, tokAV, q]
      exact hQ _ ⟨by (first | omega | (simp only [AHeap.alloc_n, AHeap.upd_n]; omega)), fun b hb hne => by (try simp only [AHeap.alloc_n, AHeap.upd_n] at hb hne); simp (maxSteps := 9999999) (disch := first | omega | (simp only [hN] <;> omega) | fail) only [go_sem, simprocAttr, hf2.old, hf]⟩
    · rw [if_neg h16] at hQ
      have e : ((lv : Int) == 16) = false := by simp; omega
      simp (maxSteps := 9999999) (disch := first | omega | (simp only [hN] <;> omega) | fail) only [go_sem, simprocAttr, hh, q1, e]
      have ep : ((lv : Int) + 1) = ((lv + 1 : Nat) : Int) := by omega
      rw [ep]
      refine must_tok (E := E) (lv := lv + 1) (ts := ts) (hp1.step (ver := ver + 1) (Fr.upd _ _ _) (by simp (maxSteps := 9999999) (disch := first | omega | (simp only [hN] <;> omega) | fail) only [go_sem, simprocAttr, ht.flat.1, ht.flat.2]) (ht.fr (q := r) ⟨by (first | omega | (simp only [AHeap.alloc_n, AHeap.upd_n]; omega)), fun b hb hne => by (try simp only [AHeap.alloc_n, AHeap.upd_n] at hb hne); simp (maxSteps := 9999999) (disch := first | omega | (simp only [hN] <;> omega) | fail) only [go_sem, simprocAttr, hf]⟩ hlt (by omega)) (by omega)) ?_
      rw [if_pos hh]
      intro h2 hf2 hp2
      have hn2 := hf2.n; try simp only [AHeap.alloc_n, AHeap.upd_n] at hn2
      have q3 : h2.get h.n = some ⟨0, .cells .own 0 [.int .i64 0, .str [], .int .i64 0, .int .u64 0, .int .i64 0]⟩ := by simp (maxSteps := 9999999) (disch := first | omega | (simp only [hN] <;> omega) | fail) only [go_sem, simprocAttr, hf2.old, hf1.old]
      simp (maxSteps := 9999999) (disch := first | omega | (simp only [hN] <;> omega) | fail) only [go_sem, simprocAttr, tokAV, q3]
      refine hQ _ ?_ ?_
      · exact ⟨by (first | omega | (simp only [AHeap.alloc_n, AHeap.upd_n]; omega)), fun b hb hne => by (try simp only [AHeap.alloc_n, AHeap.upd_n] at hb hne); simp (maxSteps := 9999999) (disch := first | omega | (simp only [hN] <;> omega) | fail) only [go_sem, simprocAttr, hf2.old, hf]⟩
      · exact hp2.fr' (q := h.n) (Fr.upd _ _ _) hlt
  · rw [if_neg hh] at hQ
    have hh' : isT [w] ts = false := by simpa using hh
    simp (maxSteps := 9999999) (disch := first | omega | (simp only [hN] <;> omega) | fail) only [go_sem, simprocAttr, hh']
    refine wrong_tok hp1 ?_
    intro h2 hf2
    have hn2 := hf2.n; try simp only [AHeap.alloc_n, AHeap.upd_n] at hn2
    simp (maxSteps := 9999999) (disch := first | omega | (simp only [hN] <;> omega) | fail) only [go_sem, simprocAttr]
    exact hQ _ ⟨by (first | omega | (simp only [AHeap.alloc_n, AHeap.upd_n]; omega)), fun b hb hne => by (try simp only [AHeap.alloc_n, AHeap.upd_n] at hb hne); simp (maxSteps := 9999999) (disch := first | omega | (simp only [hN] <;> omega) | fail) only [go_sem, simprocAttr, hf2.old, hf]⟩
end Go.Ev
