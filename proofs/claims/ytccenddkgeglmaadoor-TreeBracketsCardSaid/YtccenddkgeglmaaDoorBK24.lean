/- The tree's reader: rows of operators. -/
import Derived.Test.YtccenddkgeglmaaDoorBK23
set_option linter.all false
set_option linter.unusedVariables false
set_option linter.unusedSimpArgs false
namespace Go.Ev
open Go
set_option maxRecDepth 100000
set_option maxHeartbeats 4000000

theorem hdT_text {E : Nat} {ts : List Tok} (h : ts ≠ []) : hdT E ts = hdT 0 ts := by cases ts; exact absurd rfl h; rfl
theorem row_tok {fid E : Nat} {u : PT} (hu : PSpec fid E u) {many : Bool} {ops : List Bs} {h : AHeap} {r lv b ver cap : Nat} {ex : Bool} {ts : List Tok} {Q : QR} (hp : PInv h r E ts lv) (hb : h.get b = some ⟨ver, .cells .own 1 (ops.map .str)⟩) (hbn : b < h.n) (hbr : b ≠ r) (hl : ops.length < 2 ^ 62) (hz : rowP many ops u lv ts ≠ .error (0, 0)) (hQ : PQ h r E lv Q (rowP many ops u lv ts)) : WF F 65 [.ptr r 0, .func (.func fid) [.ptr r 0] [], .bool many, .slice b 0 ops.length cap ex] h Q := by
  refine WF.code F65 rfl ?_
  have hlt := hp.hi
  simp (maxSteps := 9999999) (disch := first | omega | (simp only [hN] <;> omega) | fail) only [go_sem, simprocAttr, List.append_nil]
  unfold rowP at hz hQ
  refine hu (hp.fr (h' := h.alloc (.cells .own 0 [.int .i64 0, .int .i64 0, .str [], .int .i64 0, .int .i64 0, .int .i64 0, .int .i64 0, .int .u64 0, .nilSlice])) ⟨by (first | omega | (simp only [AHeap.alloc_n, AHeap.upd_n]; omega)), fun b hb hne => by (try simp only [AHeap.alloc_n, AHeap.upd_n] at hb hne); simp (maxSteps := 9999999) (disch := first | omega | (simp only [hN] <;> omega) | fail) only [go_sem, simprocAttr]⟩) ?_ ?_
  · intro e; rw [e] at hz; exact hz rfl
  cases hx : u lv ts with
  | error e =>
    obtain ⟨e, p⟩ := e
    rw [hx] at hQ
    intro h1 hf1
    have hn1 := hf1.n; try simp only [AHeap.alloc_n, AHeap.upd_n] at hn1
    simp (maxSteps := 9999999) (disch := first | omega | (simp only [hN] <;> omega) | fail) only [go_sem, simprocAttr]
    exact hQ _ ⟨by (first | omega | (simp only [AHeap.alloc_n, AHeap.upd_n]; omega)), fun b hb hne => by (try simp only [AHeap.alloc_n, AHeap.upd_n] at hb hne); simp (maxSteps := 9999999) (disch := first | omega | (simp only [hN] <;> omega) | fail) only [go_sem, simprocAttr, hf1.old]⟩
  | ok y =>
    obtain ⟨n, ts1⟩ := y
    rw [hx] at hQ hz
    simp only at hQ hz
    intro h1 kv hf1 hp1 hk1
    have hn1 := hf1.n; try simp only [AHeap.alloc_n, AHeap.upd_n] at hn1
    have q0 : h1.get h.n = some ⟨0, .cells .own 0 [.int .i64 0, .int .i64 0, .str [], .int .i64 0, .int .i64 0, .int .i64 0, .int .i64 0, .int .u64 0, .nilSlice]⟩ := by simp (maxSteps := 9999999) (disch := first | omega | (simp only [hN] <;> omega) | fail) only [go_sem, simprocAttr, hf1.old]
    have qb : h1.get b = some ⟨ver, .cells .own 1 (ops.map .str)⟩ := by rw [hf1.old _ (by simp (maxSteps := 9999999) (disch := first | omega | (simp only [hN] <;> omega) | fail) only [go_sem, simprocAttr]; omega) hbr, AHeap.get_alloc, if_neg (by omega)]; exact hb
    have hf : ∀ b', b' < h.n → b' ≠ r → h1.get b' = h.get b' := fun b' hb' hr' => by simp (maxSteps := 9999999) (disch := first | omega | (simp only [hN] <;> omega) | fail) only [go_sem, simprocAttr, hf1.old]
    have hk1 : KidsR (h.n + 1) h1 n.kids kv := hk1.keep (Nat.le_refl _) (Nat.le_refl _) fun _ _ _ => rfl
    clear hf1
    simp (maxSteps := 9999999) (disch := first | omega | (simp only [hN] <;> omega) | fail) only [go_sem, simprocAttr, hk1.flat.1, hk1.flat.2]
    generalize hfu : ts1.length + 1 = fu at hz hQ
    clear hfu
    refine wp_loop (fun f a h' => ∃ nd ts2 kv2 v2, rowL u many ops lv f nd ts2 = rowL u many ops lv fu n ts1 ∧ h'.get h1.n = some ⟨v2, .cells .own 0 (ndC nd kv2)⟩ ∧ PInv h' r E ts2 lv ∧ KidsR (h.n + 1) h' nd.kids kv2 ∧ h1.n + 1 ≤ h'.n ∧ (∀ b', b' < h1.n → b' ≠ r → h'.get b' = h1.get b') ∧ a.tm.get 0 = some (.ptr r 0) ∧ a.tm.get 1 = some (.func (.func fid) [.ptr r 0] []) ∧ a.tm.get 2 = some (.bool many) ∧ a.tm.get 3 = some (.slice b 0 ops.length cap ex) ∧ a.tm.get 8 = some (.ptr h.n 0) ∧ a.tm.get 9 = some (.ptr h1.n 0) ∧ a.df = []) ?_ fu ?_
    · rintro f ⟨t, df⟩ h2 ⟨nd, ts2, kv2, v2, hR, q9, hp2, hk2, hn2, hf2, k0, k1, k2, k3, k8, k9, hdf⟩
      simp only at k0 k1 k2 k3 k8 k9 hdf
      subst hdf
      have hlt1 := hp1.hi
      have qb2 : h2.get b = some ⟨ver, .cells .own 1 (ops.map .str)⟩ := by rw [hf2 _ (by omega) hbr]; exact qb
      have q02 : h2.get h.n = some ⟨0, .cells .own 0 [.int .i64 0, .int .i64 0, .str [], .int .i64 0, .int .i64 0, .int .i64 0, .int .i64 0, .int .u64 0, .nilSlice]⟩ := by rw [hf2 _ (by omega) (by omega)]; exact q0
      cases f with
      | zero => rw [← hR] at hz; exact absurd rfl hz
      | succ f =>
        rw [← hR] at hz hQ
        rw [rowL] at hR hz hQ
        simp (maxSteps := 9999999) (disch := first | omega | (simp only [hN] <;> omega) | fail) only [go_sem, simprocAttr, k0, k1, k2, k3, k8, k9]
        refine is_tok (md := .own) (ver := ver) hp2 qb2 (by omega) hl ?_
        intro h3 hf3
        have hn3 := hf3.n; try simp only [AHeap.alloc_n, AHeap.upd_n] at hn3
        have hp3 := hp2.fr hf3
        have q93 : h3.get h1.n = some ⟨v2, .cells .own 0 (ndC nd kv2)⟩ := by rw [hf3.old _ (by omega) (by omega)]; exact q9
        by_cases hi : isT ops ts2 = true
        · rw [if_pos hi] at hz hQ hR
          simp (maxSteps := 9999999) (disch := first | omega | (simp only [hN] <;> omega) | fail) only [go_sem, simprocAttr, hi, k0, k1, k2, k3, k8, k9]
          refine here_tok (E := E) (lv := lv) (ts := ts2) hp3 ?_
          intro h4 hf4
          have hn4 := hf4.n; try simp only [AHeap.alloc_n, AHeap.upd_n] at hn4
          have hp4 := hp3.fr hf4
          have q94 : h4.get h1.n = some ⟨v2, .cells .own 0 (ndC nd kv2)⟩ := by rw [hf4.old _ (by omega) (by omega)]; exact q93
          obtain ⟨vr, v, hr, ht⟩ := hp4.st
          obtain ⟨c, o, vc, cs, rfl, hc, hcr, ht'⟩ := ht.slc (isT_ne hi)
          have hpos : 0 < ts2.length := List.length_pos_iff.2 (isT_ne hi)
          have c1 : bnd (some (.int .i64 1)) 0 ts2.length = some 1 := bnd_num (i := 1) (by omega)
          have c2 : ts2.length.beq 0 = false := by rw [beq_nat]; exact decide_eq_false (by omega)
          have g1 : (h1.n = r) = False := by simp; omega
          simp (maxSteps := 9999999) (disch := first | omega | (simp only [hN] <;> omega) | fail) only [go_sem, simprocAttr, tokAV, k0, k1, k2, k3, k8, k9, hr, hc, c1, c2, q94, Option.isSome_none, Bool.and_false, cond_false, List.append_nil]
          have hE : (hdT E ts2).text = (hdT 0 ts2).text := congrArg Tok.text (hdT_text (isT_ne hi))
          rw [hE]
          have hp5 : PInv (h4.upd r (vr + 1) (.cells .own 0 [.slice c (o + 5) (ts2.length - 1) (ts2.length - 1) false, .int .i64 (E : Int), .int .i64 (lv : Int)])) r E ts2.tail lv := hp4.step (ver := vr + 1) (Fr.upd _ _ _) (by simp (maxSteps := 9999999) (disch := first | omega | (simp only [hN] <;> omega) | fail) only [go_sem, simprocAttr]) ht' hp4.lvl
          have q04 : h4.get h.n = some ⟨0, .cells .own 0 [.int .i64 0, .int .i64 0, .str [], .int .i64 0, .int .i64 0, .int .i64 0, .int .i64 0, .int .u64 0, .nilSlice]⟩ := by rw [hf4.old _ (by omega) (by omega), hf3.old _ (by omega) (by omega)]; exact q02
          have hf4' : ∀ b', b' < h1.n → b' ≠ r → h4.get b' = h1.get b' := fun b' hb' hr' => by rw [hf4.old _ (by omega) (by omega), hf3.old _ (by omega) (by omega)]; exact hf2 _ hb' hr'
          have hk4 : KidsR (h.n + 1) h4 nd.kids kv2 := hk2.keep (Nat.le_refl _) (by omega) fun b' hb1 hb2 => by rw [hf4.old _ (by omega) (by omega), hf3.old _ (by omega) (by omega)]
          have hn4' : h1.n + 1 ≤ h4.n := by omega
          have hlt4 := hp4.hi
          clear hf4 hf3 hf2 q02 q93 q9 hp3 hp2 hk2 hn2 hn3 hn4 qb2 hr hc ht ht' hp4 hE
          refine hu hp5 ?_ ?_
          · intro e; rw [e] at hz; exact hz rfl
          cases hxx : u lv ts2.tail with
          | error e =>
            obtain ⟨e, p⟩ := e
            rw [hxx] at hQ
            intro h5 hf5
            have hn5 := hf5.n; try simp only [AHeap.alloc_n, AHeap.upd_n] at hn5
            have q95 : h5.get h1.n = some ⟨v2, .cells .own 0 (ndC nd kv2)⟩ := by rw [hf5.old _ (by simp (maxSteps := 9999999) (disch := first | omega | (simp only [hN] <;> omega) | fail) only [go_sem, simprocAttr]; omega) (by omega), AHeap.get_upd, if_neg (by omega)]; exact q94
            simp (maxSteps := 9999999) (disch := first | omega | (simp only [hN] <;> omega) | fail) only [go_sem, simprocAttr, q94, q95]
            exact hQ _ ⟨by (first | omega | (simp only [AHeap.alloc_n, AHeap.upd_n]; omega)), fun b hb hne => by (try simp only [AHeap.alloc_n, AHeap.upd_n] at hb hne); simp (maxSteps := 9999999) (disch := first | omega | (simp only [hN] <;> omega) | fail) only [go_sem, simprocAttr, hf5.old, hf4', hf]⟩
          | ok y =>
            obtain ⟨k, ts3⟩ := y
            rw [hxx] at hQ hz hR
            simp only at hQ hz hR
            intro h5 kv3 hf5 hp6 hk5
            have hn5 := hf5.n; try simp only [AHeap.alloc_n, AHeap.upd_n] at hn5
            have q95 : h5.get h1.n = some ⟨v2, .cells .own 0 (ndC nd kv2)⟩ := by rw [hf5.old _ (by simp (maxSteps := 9999999) (disch := first | omega | (simp only [hN] <;> omega) | fail) only [go_sem, simprocAttr]; omega) (by omega), AHeap.get_upd, if_neg (by omega)]; exact q94
            have q05 : h5.get h.n = some ⟨0, .cells .own 0 [.int .i64 0, .int .i64 0, .str [], .int .i64 0, .int .i64 0, .int .i64 0, .int .i64 0, .int .u64 0, .nilSlice]⟩ := by rw [hf5.old _ (by simp (maxSteps := 9999999) (disch := first | omega | (simp only [hN] <;> omega) | fail) only [go_sem, simprocAttr]; omega) (by omega), AHeap.get_upd, if_neg (by omega)]; exact q04
            simp (maxSteps := 9999999) (disch := first | omega | (simp only [hN] <;> omega) | fail) only [go_sem, simprocAttr, q94, q95, hk4.flat.1, hk4.flat.2, hk5.flat.1, hk5.flat.2, k0, k1, k2, k3, k8, k9]
            have hk6 : ∀ v3, KidsR (h.n + 1) ((h5.alloc (.cells .own 9 (ndC nd kv2 ++ ndC k kv3))).upd h1.n v3 (.cells .own 0 [.int .i64 31, .int .i64 nd.pos, .str (hdT 0 ts2).text, .int .i64 0, .int .i64 0, .int .i64 0, .int .i64 0, .int .u64 0, .slice h5.n 0 2 2 true])) [nd, k] (.slice h5.n 0 2 2 true) := by
              intro v3
              refine KidsR.two (ver := 0) (kv := kv2) (mv := kv3) (hk4.keep9 (Nat.le_refl _) (by simp (maxSteps := 9999999) (disch := first | omega | (simp only [hN] <;> omega) | fail) only [go_sem, simprocAttr]; omega) fun b' _ _ _ hb1 hb2 hb3 => ?_) (hk5.keep9 (by simp (maxSteps := 9999999) (disch := first | omega | (simp only [hN] <;> omega) | fail) only [go_sem, simprocAttr]; omega) (by simp (maxSteps := 9999999) (disch := first | omega | (simp only [hN] <;> omega) | fail) only [go_sem, simprocAttr]; omega) fun b' _ _ _ hb1 hb2 hb3 => ?_) (by omega) (by simp (maxSteps := 9999999) (disch := first | omega | (simp only [hN] <;> omega) | fail) only [go_sem, simprocAttr]; omega) (by simp (maxSteps := 9999999) (disch := first | omega | (simp only [hN] <;> omega) | fail) only [go_sem, simprocAttr])
              · by_cases hb9 : b' = h1.n
                · subst hb9; rw [q94] at hb3; cases hb3
                · rw [AHeap.get_upd, if_neg hb9, AHeap.get_alloc, if_neg (by omega), hf5.old _ (by simp (maxSteps := 9999999) (disch := first | omega | (simp only [hN] <;> omega) | fail) only [go_sem, simprocAttr]; omega) (by omega), AHeap.get_upd, if_neg (by omega)]
              · by_cases hb9 : b' = h1.n
                · subst hb9; rw [q95] at hb3; cases hb3
                · rw [AHeap.get_upd, if_neg hb9, AHeap.get_alloc, if_neg (by omega)]
            cases many with
            | true =>
              simp (maxSteps := 9999999) (disch := first | omega | (simp only [hN] <;> omega) | fail) only [go_sem, simprocAttr, k0, k1, k2, k3, k8, k9]
              refine ⟨f, Nat.lt_succ_self _, binN nd (hdT 0 ts2).text k, ts3, _, _, hR, rfl, (hp6.fr (h' := h5.alloc (.cells .own 9 (ndC nd kv2 ++ ndC k kv3))) ⟨by (first | omega | (simp only [AHeap.alloc_n, AHeap.upd_n]; omega)), fun b hb hne => by (try simp only [AHeap.alloc_n, AHeap.upd_n] at hb hne); simp (maxSteps := 9999999) (disch := first | omega | (simp only [hN] <;> omega) | fail) only [go_sem, simprocAttr]⟩).fr' (q := h1.n) (Fr.upd _ _ _) (by omega), hk6 _, by omega, fun b' hb1 hb2 => by simp (maxSteps := 9999999) (disch := first | omega | (simp only [hN] <;> omega) | fail) only [go_sem, simprocAttr, hf5.old, hf4']⟩
            | false =>
              simp (maxSteps := 9999999) (disch := first | omega | (simp only [hN] <;> omega) | fail) only [go_sem, simprocAttr, k0, k1, k2, k3, k8, k9, q05]
              refine hQ _ _ ⟨by (first | omega | (simp only [AHeap.alloc_n, AHeap.upd_n]; omega)), fun b hb hne => by (try simp only [AHeap.alloc_n, AHeap.upd_n] at hb hne); simp (maxSteps := 9999999) (disch := first | omega | (simp only [hN] <;> omega) | fail) only [go_sem, simprocAttr, hf5.old, hf4', hf]⟩ (((hp6.fr (h' := h5.alloc (.cells .own 9 (ndC nd kv2 ++ ndC k kv3))) ⟨by (first | omega | (simp only [AHeap.alloc_n, AHeap.upd_n]; omega)), fun b hb hne => by (try simp only [AHeap.alloc_n, AHeap.upd_n] at hb hne); simp (maxSteps := 9999999) (disch := first | omega | (simp only [hN] <;> omega) | fail) only [go_sem, simprocAttr]⟩).fr' (q := h1.n) (Fr.upd _ _ _) (by omega)).fr' (q := h.n) (Fr.upd _ _ _) hlt) ((hk6 (v2 + 1)).keep (by omega) (by simp (maxSteps := 9999999) (disch := first | omega | (simp only [hN] <;> omega) | fail) only [go_sem, simprocAttr]; exact Nat.le_refl _) fun b' hb1 hb2 => ?_)
              rw [AHeap.get_upd, if_neg (by omega)]
              rfl
        · rw [if_neg hi] at hz hQ
          have hi' : isT ops ts2 = false := by simpa using hi
          have q03 : h3.get h.n = some ⟨0, .cells .own 0 [.int .i64 0, .int .i64 0, .str [], .int .i64 0, .int .i64 0, .int .i64 0, .int .i64 0, .int .u64 0, .nilSlice]⟩ := by rw [hf3.old _ (by omega) (by omega)]; exact q02
          simp (maxSteps := 9999999) (disch := first | omega | (simp only [hN] <;> omega) | fail) only [go_sem, simprocAttr, hi', k0, k1, k2, k3, k8, k9, q93, q03, hk2.flat.1, hk2.flat.2]
          exact hQ _ kv2 ⟨by (first | omega | (simp only [AHeap.alloc_n, AHeap.upd_n]; omega)), fun b hb hne => by (try simp only [AHeap.alloc_n, AHeap.upd_n] at hb hne); simp (maxSteps := 9999999) (disch := first | omega | (simp only [hN] <;> omega) | fail) only [go_sem, simprocAttr, hf3.old, hf2, hf]⟩ (hp3.fr' (q := h.n) (Fr.upd _ _ _) hlt) (hk2.keep (by omega) (by simp (maxSteps := 9999999) (disch := first | omega | (simp only [hN] <;> omega) | fail) only [go_sem, simprocAttr]; omega) fun b' hb1 hb2 => by simp (maxSteps := 9999999) (disch := first | omega | (simp only [hN] <;> omega) | fail) only [go_sem, simprocAttr, hf3.old])
    · refine ⟨n, ts1, kv, 1, rfl, by simp (maxSteps := 9999999) (disch := first | omega | (simp only [hN] <;> omega) | fail) only [go_sem, simprocAttr], hp1.fr ⟨by (first | omega | (simp only [AHeap.alloc_n, AHeap.upd_n]; omega)), fun b hb hne => by (try simp only [AHeap.alloc_n, AHeap.upd_n] at hb hne); simp (maxSteps := 9999999) (disch := first | omega | (simp only [hN] <;> omega) | fail) only [go_sem, simprocAttr]⟩, hk1.keep (Nat.le_refl _) (by simp (maxSteps := 9999999) (disch := first | omega | (simp only [hN] <;> omega) | fail) only [go_sem, simprocAttr]; omega) fun b' hb1 hb2 => by simp (maxSteps := 9999999) (disch := first | omega | (simp only [hN] <;> omega) | fail) only [go_sem, simprocAttr], by simp (maxSteps := 9999999) (disch := first | omega | (simp only [hN] <;> omega) | fail) only [go_sem, simprocAttr]; omega, fun b' hb1 hb2 => by simp (maxSteps := 9999999) (disch := first | omega | (simp only [hN] <;> omega) | fail) only [go_sem, simprocAttr], ?_⟩
      simp (maxSteps := 9999999) (disch := first | omega | (simp only [hN] <;> omega) | fail) only [go_sem, simprocAttr]
end Go.Ev
