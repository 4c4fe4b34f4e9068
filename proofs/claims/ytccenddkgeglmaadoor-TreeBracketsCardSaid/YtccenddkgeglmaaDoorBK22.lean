/- The tree's reader: close, name, prim, unary. -/
import Derived.Test.YtccenddkgeglmaaDoorBK21
set_option linter.all false
set_option linter.unusedVariables false
set_option linter.unusedSimpArgs false
namespace Go.Ev
open Go
set_option maxRecDepth 100000
set_option maxHeartbeats 4000000

attribute [go_sem] ndC
theorem close_tok {E r lv : Nat} {w : Bs} {ts : List Tok} {h : AHeap} (hp : PInv h r E ts (lv + 1)) {Q : QR}
    (hQ : if isT [w] ts = true then ∀ h', Fr r h h' → PInv h' r E ts.tail lv → Q (.ret (.tuple [])) h' else ∀ h', Fr r h h' → Q (treeStop 2 (hdT E ts).pos) h') : WF F 104 [.ptr r 0, .str w] h Q := by
  refine WF.code F104 rfl ?_
  have hlv := hp.lvl
  simp (maxSteps := 9999999) (disch := first | omega | (simp only [hN] <;> omega) | fail) only [go_sem, simprocAttr]
  refine must_tok hp ?_
  by_cases hh : isT [w] ts = true
  · rw [if_pos hh] at hQ ⊢
    intro h1 hf1 hp1
    obtain ⟨ver, v, hr, ht⟩ := hp1.st
    have hlt := hp1.hi
    have ep : (((lv + 1 : Nat) : Int) - 1) = (lv : Int) := by omega
    simp (maxSteps := 9999999) (disch := first | omega | (simp only [hN] <;> omega) | fail) only [go_sem, simprocAttr, tokAV, hr, ep]
    exact hQ _ (hf1.upd' _ _) (hp1.step (ver := ver + 1) (Fr.upd _ _ _) (by simp (maxSteps := 9999999) (disch := first | omega | (simp only [hN] <;> omega) | fail) only [go_sem, simprocAttr, ht.flat.1, ht.flat.2]) ht (by omega))
  · rw [if_neg hh] at hQ ⊢
    intro h1 hf1
    simp (maxSteps := 9999999) (disch := first | omega | (simp only [hN] <;> omega) | fail) only [go_sem, simprocAttr]
    exact hQ _ hf1

def PQ (h : AHeap) (r E lv : Nat) (Q : QR) : PR → Prop
  | .error (e, p) => ∀ h', Fr r h h' → Q (treeStop e p) h'
  | .ok (n, ts') => ∀ h' kv, Fr r h h' → PInv h' r E ts' lv → KidsR h.n h' n.kids kv → Q (.ret (.agg (ndC n kv))) h'
/-- A function of the reader does what a parser does. -/
def PSpec (fid E : Nat) (u : PT) : Prop := ∀ {h : AHeap} {r lv : Nat} {ts : List Tok} {Q : QR}, PInv h r E ts lv → u lv ts ≠ .error (0, 0) → PQ h r E lv Q (u lv ts) → WF F fid [.ptr r 0] h Q
theorem KidsR.one {lo b ver : Nat} {h : AHeap} {ex : Bool} {n : Nd} {kv : AV} (k : KidsR lo h n.kids kv) (hb : lo ≤ b) (hn : b < h.n) (hg : h.get b = some ⟨ver, .cells .own 9 (ndC n kv)⟩) : KidsR lo h [n] (.slice b 0 1 1 ex) :=
  .own (by simp) hb hn hg (by have := RowsR.cons k RowsR.nil; rwa [List.append_nil] at this)
theorem KidsR.two {lo b ver : Nat} {h : AHeap} {ex : Bool} {n m : Nd} {kv mv : AV} (k : KidsR lo h n.kids kv) (k2 : KidsR lo h m.kids mv) (hb : lo ≤ b) (hn : b < h.n) (hg : h.get b = some ⟨ver, .cells .own 9 (ndC n kv ++ ndC m mv)⟩) : KidsR lo h [n, m] (.slice b 0 2 2 ex) :=
  .own (by simp) hb hn hg (by have := RowsR.cons k (RowsR.cons k2 RowsR.nil); rwa [List.append_nil] at this)

theorem name_tok {E : Nat} {x : PT} (hx : PSpec 38 E x) {h : AHeap} {r lv : Nat} {ts : List Tok} {Q : QR} (hp : PInv h r E ts lv) (h1k : (hdT E ts).kind = 1) (hz : nameP E x lv ts ≠ .error (0, 0)) (hQ : PQ h r E lv Q (nameP E x lv ts)) : WF F 120 [.ptr r 0] h Q := by
  refine WF.code F120 rfl ?_
  have hlt := hp.hi
  simp (maxSteps := 9999999) (disch := first | omega | (simp only [hN] <;> omega) | fail) only [go_sem, simprocAttr]
  refine take_tok (k := 1) (E := E) (lv := lv) (ts := ts) (hp.fr ⟨by (first | omega | (simp only [AHeap.alloc_n, AHeap.upd_n]; omega)), fun b hb hne => by (try simp only [AHeap.alloc_n, AHeap.upd_n] at hb hne); simp (maxSteps := 9999999) (disch := first | omega | (simp only [hN] <;> omega) | fail) only [go_sem, simprocAttr]⟩) (by decide) ?_
  rw [if_pos h1k]
  intro h1 hf1 hp1
  have hn1 := hf1.n; try simp only [AHeap.alloc_n, AHeap.upd_n] at hn1
  simp (maxSteps := 9999999) (disch := first | omega | (simp only [hN] <;> omega) | fail) only [go_sem, simprocAttr, tokAV]
  have hf : ∀ b', b' < h.n → b' ≠ r → h1.get b' = h.get b' := fun b' hb' hn' => by simp (maxSteps := 9999999) (disch := first | omega | (simp only [hN] <;> omega) | fail) only [go_sem, simprocAttr, hf1.old]
  have q0 : h1.get h.n = some ⟨0, .cells .own 0 [.int .i64 0, .int .i64 0, .str [], .int .i64 0, .int .i64 0, .int .i64 0, .int .i64 0, .int .u64 0, .nilSlice]⟩ := by simp (maxSteps := 9999999) (disch := first | omega | (simp only [hN] <;> omega) | fail) only [go_sem, simprocAttr, hf1.old]
  generalize hts : ts.tail = ts1 at hp1
  simp only [nameP, hts] at hz hQ
  have hlt1 := hp1.hi
  generalize hdT E ts = t at *
  refine is_tok (ws := [[91]]) (md := .own) (ver := 0) (E := E) (ts := ts1) (lv := lv) (hp1.fr ⟨by (first | omega | (simp only [AHeap.alloc_n, AHeap.upd_n]; omega)), fun b hb hne => by (try simp only [AHeap.alloc_n, AHeap.upd_n] at hb hne); simp (maxSteps := 9999999) (disch := first | omega | (simp only [hN] <;> omega) | fail) only [go_sem, simprocAttr]⟩) (by (first | (simp (maxSteps := 9999999) (disch := first | omega | (simp only [hN] <;> omega) | fail) only [go_sem, simprocAttr, List.map]; done) | (simp (maxSteps := 9999999) (disch := first | omega | (simp only [hN] <;> omega) | fail) only [go_sem, simprocAttr, List.map]; rfl))) (by simp (maxSteps := 9999999) (disch := first | omega | (simp only [hN] <;> omega) | fail) only [go_sem, simprocAttr]; omega) (show 1 < 2 ^ 62 by decide) ?_
  intro h2 hf2
  have hn2 := hf2.n; try simp only [AHeap.alloc_n, AHeap.upd_n] at hn2
  by_cases hh : isT [[91]] ts1 = true
  · rw [if_pos hh] at hz hQ
    simp only [inP, hh, if_true] at hz hQ
    simp (maxSteps := 9999999) (disch := first | omega | (simp only [hN] <;> omega) | fail) only [go_sem, simprocAttr, hh, hf2.old]
    refine open_tok (E := E) (lv := lv) (ts := ts1) (hp1.fr ⟨by (first | omega | (simp only [AHeap.alloc_n, AHeap.upd_n]; omega)), fun b hb hne => by (try simp only [AHeap.alloc_n, AHeap.upd_n] at hb hne); simp (maxSteps := 9999999) (disch := first | omega | (simp only [hN] <;> omega) | fail) only [go_sem, simprocAttr, hf2.old]⟩) ?_
    rw [if_pos hh]
    by_cases h16 : lv = 16
    · rw [if_pos h16] at hQ ⊢
      intro h3 hf3
      have hn3 := hf3.n; try simp only [AHeap.alloc_n, AHeap.upd_n] at hn3
      simp (maxSteps := 9999999) (disch := first | omega | (simp only [hN] <;> omega) | fail) only [go_sem, simprocAttr]
      exact hQ _ ⟨by (first | omega | (simp only [AHeap.alloc_n, AHeap.upd_n]; omega)), fun b hb hne => by (try simp only [AHeap.alloc_n, AHeap.upd_n] at hb hne); simp (maxSteps := 9999999) (disch := first | omega | (simp only [hN] <;> omega) | fail) only [go_sem, simprocAttr, hf3.old, hf2.old, hf]⟩
    · rw [if_neg h16] at hQ hz ⊢
      intro h3 hf3 hp3
      have hn3 := hf3.n; try simp only [AHeap.alloc_n, AHeap.upd_n] at hn3
      simp (maxSteps := 9999999) (disch := first | omega | (simp only [hN] <;> omega) | fail) only [go_sem, simprocAttr, tokAV]
      refine hx hp3 ?_ ?_
      · intro e; rw [e] at hz; exact hz rfl
      cases hxx : x (lv + 1) ts1.tail with
      | error e =>
        obtain ⟨e, p⟩ := e
        rw [hxx] at hQ
        intro h4 hf4
        have hn4 := hf4.n; try simp only [AHeap.alloc_n, AHeap.upd_n] at hn4
        simp (maxSteps := 9999999) (disch := first | omega | (simp only [hN] <;> omega) | fail) only [go_sem, simprocAttr]
        exact hQ _ ⟨by (first | omega | (simp only [AHeap.alloc_n, AHeap.upd_n]; omega)), fun b hb hne => by (try simp only [AHeap.alloc_n, AHeap.upd_n] at hb hne); simp (maxSteps := 9999999) (disch := first | omega | (simp only [hN] <;> omega) | fail) only [go_sem, simprocAttr, hf4.old, hf3.old, hf2.old, hf]⟩
      | ok y =>
        obtain ⟨k, ts2⟩ := y
        rw [hxx] at hQ hz
        intro h4 kv hf4 hp4 hk4
        have hn4 := hf4.n; try simp only [AHeap.alloc_n, AHeap.upd_n] at hn4
        have q4 : h4.get (h1.n + 1) = some ⟨2, .cells .own 0 [.int .i64 29, .int .i64 (t.pos : Int), .str t.text, .int .i64 0, .int .i64 0, .int .i64 0, .int .i64 0, .int .u64 0, .nilSlice]⟩ := by simp (maxSteps := 9999999) (disch := first | omega | (simp only [hN] <;> omega) | fail) only [go_sem, simprocAttr, hf4.old, hf3.old]
        simp (maxSteps := 9999999) (disch := first | omega | (simp only [hN] <;> omega) | fail) only [go_sem, simprocAttr, q4, hk4.flat.1, hk4.flat.2]
        refine close_tok (E := E) (lv := lv) (ts := ts2) ((hp4.fr (h' := h4.alloc (.cells .own 9 (ndC k kv))) ⟨by (first | omega | (simp only [AHeap.alloc_n, AHeap.upd_n]; omega)), fun b hb hne => by (try simp only [AHeap.alloc_n, AHeap.upd_n] at hb hne); simp (maxSteps := 9999999) (disch := first | omega | (simp only [hN] <;> omega) | fail) only [go_sem, simprocAttr]⟩).fr' (q := h1.n + 1) (Fr.upd _ _ _) (by omega)) ?_
        simp only at hQ
        by_cases hb : isT [[93]] ts2 = true
        · rw [if_pos hb] at hQ ⊢
          intro h5 hf5 hp5
          have hn5 := hf5.n; try simp only [AHeap.alloc_n, AHeap.upd_n] at hn5
          have q5 : h5.get h.n = some ⟨0, .cells .own 0 [.int .i64 0, .int .i64 0, .str [], .int .i64 0, .int .i64 0, .int .i64 0, .int .i64 0, .int .u64 0, .nilSlice]⟩ := by simp (maxSteps := 9999999) (disch := first | omega | (simp only [hN] <;> omega) | fail) only [go_sem, simprocAttr, hf5.old, hf4.old, hf3.old, hf2.old, q0]
          have q6 : h5.get (h1.n + 1) = some ⟨3, .cells .own 0 [.int .i64 29, .int .i64 (t.pos : Int), .str t.text, .int .i64 0, .int .i64 0, .int .i64 0, .int .i64 0, .int .u64 0, .slice h4.n 0 1 1 true]⟩ := by simp (maxSteps := 9999999) (disch := first | omega | (simp only [hN] <;> omega) | fail) only [go_sem, simprocAttr, hf5.old]
          simp (maxSteps := 9999999) (disch := first | omega | (simp only [hN] <;> omega) | fail) only [go_sem, simprocAttr, q5, q6]
          refine hQ _ _ ⟨by (first | omega | (simp only [AHeap.alloc_n, AHeap.upd_n]; omega)), fun b hb hne => by (try simp only [AHeap.alloc_n, AHeap.upd_n] at hb hne); simp (maxSteps := 9999999) (disch := first | omega | (simp only [hN] <;> omega) | fail) only [go_sem, simprocAttr, hf5.old, hf4.old, hf3.old, hf2.old, hf]⟩ (hp5.fr' (q := h.n) (Fr.upd _ _ _) hlt) ?_
          refine KidsR.one (ver := 0) (kv := kv) (hk4.keep (by omega) (by simp (maxSteps := 9999999) (disch := first | omega | (simp only [hN] <;> omega) | fail) only [go_sem, simprocAttr]; omega) fun b hb1 hb2 => by simp (maxSteps := 9999999) (disch := first | omega | (simp only [hN] <;> omega) | fail) only [go_sem, simprocAttr, hf5.old]) (by omega) (by simp (maxSteps := 9999999) (disch := first | omega | (simp only [hN] <;> omega) | fail) only [go_sem, simprocAttr]; omega) (by simp (maxSteps := 9999999) (disch := first | omega | (simp only [hN] <;> omega) | fail) only [go_sem, simprocAttr, hf5.old])
        · rw [if_neg hb] at hQ ⊢
          intro h5 hf5
          have hn5 := hf5.n; try simp only [AHeap.alloc_n, AHeap.upd_n] at hn5
          simp (maxSteps := 9999999) (disch := first | omega | (simp only [hN] <;> omega) | fail) only [go_sem, simprocAttr]
          exact hQ _ ⟨by (first | omega | (simp only [AHeap.alloc_n, AHeap.upd_n]; omega)), fun b hb hne => by (try simp only [AHeap.alloc_n, AHeap.upd_n] at hb hne); simp (maxSteps := 9999999) (disch := first | omega | (simp only [hN] <;> omega) | fail) only [go_sem, simprocAttr, hf5.old, hf4.old, hf3.old, hf2.old, hf]⟩
  · rw [if_neg hh] at hz hQ
    have hh' : isT [[91]] ts1 = false := by simpa using hh
    simp (maxSteps := 9999999) (disch := first | omega | (simp only [hN] <;> omega) | fail) only [go_sem, simprocAttr, hh', hf2.old, q0]
    refine hQ _ .nilSlice ⟨by (first | omega | (simp only [AHeap.alloc_n, AHeap.upd_n]; omega)), fun b hb hne => by (try simp only [AHeap.alloc_n, AHeap.upd_n] at hb hne); simp (maxSteps := 9999999) (disch := first | omega | (simp only [hN] <;> omega) | fail) only [go_sem, simprocAttr, hf2.old, hf]⟩ ((hp1.fr (h' := h2) ⟨by (first | omega | (simp only [AHeap.alloc_n, AHeap.upd_n]; omega)), fun b hb hne => by (try simp only [AHeap.alloc_n, AHeap.upd_n] at hb hne); simp (maxSteps := 9999999) (disch := first | omega | (simp only [hN] <;> omega) | fail) only [go_sem, simprocAttr, hf2.old]⟩).fr' (q := h.n) (Fr.upd _ _ _) hlt) ?_
    exact .nil
end Go.Ev
