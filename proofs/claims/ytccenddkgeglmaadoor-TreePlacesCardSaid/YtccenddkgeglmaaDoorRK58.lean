/- The tree's reader: declarations (printed by gen58.py). -/
import Derived.Test.YtccenddkgeglmaaDoorRK56
import Derived.Test.YtccenddkgeglmaaDoorPuA
import Derived.Test.YtccenddkgeglmaaDoorRK25
set_option linter.all false
set_option linter.unusedVariables false
set_option linter.unusedSimpArgs false
namespace Go.Ev
open Go
set_option maxRecDepth 100000
set_option maxHeartbeats 4000000

theorem commaL_len {E : Nat} {x : List Tok → PR} (hx : ∀ ts, FE ts 1 (x ts)) : ∀ (f : Nat) (acc : List Nd) (ts : List Tok) (ns : List Nd) (ts' : List Tok), commaL E x f acc ts = .ok (ns, ts') → ns.length + ts'.length ≤ acc.length + ts.length
  | 0, _, _, _, _, h => by cases h
  | f + 1, acc, ts, ns, ts', h => by
    rw [commaL] at h
    have h1 := hx ts
    cases hy : x ts with
    | error e => rw [hy] at h; cases h
    | ok y =>
      obtain ⟨n, ts1⟩ := y
      rw [hy] at h h1
      simp only [FE] at h h1
      split at h
      · have := commaL_len hx f _ _ _ _ h
        have ht := tail_le (ts := ts1)
        rw [List.length_append, List.length_cons, List.length_nil] at this
        omega
      · cases h
        rw [List.length_append, List.length_cons, List.length_nil]
        omega
theorem paramsP_len {E : Nat} {ts ts' : List Tok} {ns : List Nd} (h : paramsP E ts = .ok (ns, ts')) (hs : ts.length ≤ 2000) : ns.length ≤ 2000 := by
  unfold paramsP at h
  cases h1 : mustP E [40] ts with
  | error e => rw [h1] at h; cases h
  | ok ts1 =>
    obtain ⟨_, _, l1⟩ := must_ok h1
    rw [h1] at h
    simp only at h
    cases h2 : commaP E (paramP E) ts1 with
    | error e => rw [h2] at h; cases h
    | ok y =>
      obtain ⟨n2, ts2⟩ := y
      rw [h2] at h
      simp only at h
      have hl : n2.length ≤ ts1.length := by
        unfold commaP at h2
        split at h2
        · cases h2; simp
        · have := commaL_len (E := E) (x := paramP E) paramP_fine _ _ _ _ _ h2
          simp only [List.length_nil] at this
          omega
      cases h3 : mustP E [41] ts2 with
      | error e => rw [h3] at h; cases h
      | ok ts3 => rw [h3] at h; cases h; omega
theorem decl_tok {E r lv : Nat} {ts : List Tok} {h : AHeap} {Q : QR} (hp : PInv h r E ts 0) (hsm : ts.length ≤ 2000) (hQ : PQ h r E 0 Q (declP E ts)) : WF F 49 [.ptr r 0] h Q := by
  refine WF.code F49 rfl ?_
  have hlt := hp.hi
  simp (disch := first | omega | (simp only [hN] <;> omega) | fail) only [go_sem, simprocAttr]
  refine here_tok (E := E) (lv := 0) (ts := ts) (hp.fr ⟨by first | omega | (simp only [hN]; omega), fun b hb hne => by (try simp only [hN] at hb hne); simp (disch := first | omega | (simp only [hN] <;> omega) | fail) only [go_sem, simprocAttr]⟩) ?_
  intro h1 hf1
  have hn1 := hf1.n; try simp only [hN] at hn1
  have q0 : h1.get h.n = some ⟨0, .cells .own 0 zN⟩ := by simp (disch := first | omega | (simp only [hN] <;> omega) | fail) only [go_sem, simprocAttr, hf1.old]
  have hf : ∀ b', b' < h.n → h1.get b' = h.get b' := fun b' hb' => by simp (disch := first | omega | (simp only [hN] <;> omega) | fail) only [go_sem, simprocAttr, hf1.old]
  have hp1 : PInv h1 r E ts 0 := hp.fr ⟨by first | omega | (simp only [hN]; omega), fun b hb hne => by (try simp only [hN] at hb hne); simp (disch := first | omega | (simp only [hN] <;> omega) | fail) only [go_sem, simprocAttr, hf]⟩
  clear hf1
  simp (disch := first | omega | (simp only [hN] <;> omega) | fail) only [go_sem, simprocAttr, tokAV]
  generalize hH : AHeap.alloc (AHeap.upd (AHeap.alloc _ _) _ _ _) _ = H
  have hHn : H.n = h1.n + 2 := by rw [← hH]; simp (disch := first | omega | (simp only [hN] <;> omega) | fail) only [go_sem, simprocAttr]
  have t0 : H.get h1.n = some ⟨1, .cells .own 0 [.int .i64 ((hdT E ts).kind : Int), .str (hdT E ts).text, .int .i64 ((hdT E ts).n : Int), .int .u64 ((hdT E ts).bits : Int), .int .i64 ((hdT E ts).pos : Int)]⟩ := by rw [← hH]; simp (disch := first | omega | (simp only [hN] <;> omega) | fail) only [go_sem, simprocAttr]
  have w0 : H.get (h1.n + 1) = some ⟨0, .cells .own 1 (([[118, 97, 114], [109, 117, 116, 101, 120], [99, 104, 97, 110], [97, 116, 111, 109, 105, 99], [102, 117, 110, 99]] : List Bs).map .str)⟩ := by rw [← hH]; (first | (simp (disch := first | omega | (simp only [hN] <;> omega) | fail) only [go_sem, simprocAttr, List.map]; done) | (simp (disch := first | omega | (simp only [hN] <;> omega) | fail) only [go_sem, simprocAttr, List.map]; rfl))
  have hpH : PInv H r E ts 0 := by rw [← hH]; exact hp1.le (by simp (disch := first | omega | (simp only [hN] <;> omega) | fail) only [go_sem, simprocAttr]; omega) fun b hb => by simp (disch := first | omega | (simp only [hN] <;> omega) | fail) only [go_sem, simprocAttr]
  have q0 : H.get h.n = some ⟨0, .cells .own 0 zN⟩ := by rw [← hH]; simp (disch := first | omega | (simp only [hN] <;> omega) | fail) only [go_sem, simprocAttr, q0]
  have hf : ∀ b', b' < h.n → H.get b' = h.get b' := fun b' hb' => by rw [← hH]; simp (disch := first | omega | (simp only [hN] <;> omega) | fail) only [go_sem, simprocAttr, hf]
  clear hH hp1 hp
  refine is_tok (ws := [[118, 97, 114], [109, 117, 116, 101, 120], [99, 104, 97, 110], [97, 116, 111, 109, 105, 99], [102, 117, 110, 99]]) (md := .own) (ver := 0) (E := E) (ts := ts) (lv := 0) hpH w0 (by omega) (show 5 < 2 ^ 62 by decide) ?_
  intro h2 hf2
  have hn2 := hf2.n; try simp only [hN] at hn2
  have t2 := (hf2.old h1.n (by omega) (by omega)).trans t0
  have q2 := (hf2.old h.n (by omega) (by omega)).trans q0
  have hp2 : PInv h2 r E ts 0 := hpH.fr hf2
  have hf : ∀ b', b' < h.n → h2.get b' = h.get b' := fun b' hb' => by simp (disch := first | omega | (simp only [hN] <;> omega) | fail) only [go_sem, simprocAttr, hf2.old, hf]
  generalize h1.n = B at *
  clear hf2 hpH w0 t0 q0
  unfold declP takeP at hQ
  cases c0 : isT [[118, 97, 114], [109, 117, 116, 101, 120], [99, 104, 97, 110], [97, 116, 111, 109, 105, 99], [102, 117, 110, 99]] ts
  · rw [if_neg (by rw [c0]; decide)] at hQ
    simp (disch := first | omega | (simp only [hN] <;> omega) | fail) only [go_sem, simprocAttr]
    refine wrong_tok hp2 ?_
    intro h3 hf3
    have hn3 := hf3.n; try simp only [hN] at hn3
    simp (disch := first | omega | (simp only [hN] <;> omega) | fail) only [go_sem, simprocAttr]
    exact hQ _ ⟨by first | omega | (simp only [hN]; omega), fun b hb hne => by (try simp only [hN] at hb hne); simp (disch := first | omega | (simp only [hN] <;> omega) | fail) only [go_sem, simprocAttr, hf3.old, hf]⟩
  · rw [if_pos c0] at hQ
    have hne := isT_ne c0
    obtain ⟨ver, v, hr, ht⟩ := hp2.st
    obtain ⟨c, o, vc, cs, rfl, hc, hcr, ht'⟩ := ht.slc hne
    have hpos : 0 < ts.length := List.length_pos_iff.2 hne
    have c1 : bnd (some (.int .i64 1)) 0 ts.length = some 1 := bnd_num (i := 1) (by omega)
    have c2 : ts.length.beq 0 = false := by rw [beq_nat]; exact decide_eq_false (by omega)
    have d1 : decide (B = h2.n) = false := decide_eq_false (by omega)
    have d2 : decide (h2.n = B) = false := decide_eq_false (by omega)
    simp (disch := first | omega | (simp only [hN] <;> omega) | fail) only [go_sem, simprocAttr, hr, hc, c1, c2, Option.isSome_none, Bool.and_false, cond_false, t2, d1, d2]
    have htl := tail_lt hne
    generalize hH : AHeap.alloc (AHeap.upd _ r _ _) _ = H
    have hHn : H.n = h2.n + 1 := by rw [← hH]; simp (disch := first | omega | (simp only [hN] <;> omega) | fail) only [go_sem, simprocAttr]
    have t0 : H.get B = some ⟨1, .cells .own 0 [.int .i64 ((hdT E ts).kind : Int), .str (hdT E ts).text, .int .i64 ((hdT E ts).n : Int), .int .u64 ((hdT E ts).bits : Int), .int .i64 ((hdT E ts).pos : Int)]⟩ := by rw [← hH]; simp (disch := first | omega | (simp only [hN] <;> omega) | fail) only [go_sem, simprocAttr, t2]
    have n0 : H.get h2.n = some ⟨0, .cells .own 0 zN⟩ := by rw [← hH]; simp (disch := first | omega | (simp only [hN] <;> omega) | fail) only [go_sem, simprocAttr, zN]
    have q0 : H.get h.n = some ⟨0, .cells .own 0 zN⟩ := by rw [← hH]; simp (disch := first | omega | (simp only [hN] <;> omega) | fail) only [go_sem, simprocAttr, q2]
    have hpH : PInv H r E ts.tail 0 := by
      rw [← hH]
      have := hp2.step (ver := ver + 1) (h' := h2.upd r (ver + 1) (.cells .own 0 [.slice c (o + 5) (ts.length - 1) (ts.length - 1) false, .int .i64 (E : Int), .int .i64 0])) (Fr.upd _ _ _) (by simp (disch := first | omega | (simp only [hN] <;> omega) | fail) only [go_sem, simprocAttr]) ht' hp2.lvl
      exact this.fr ⟨by simp (disch := first | omega | (simp only [hN] <;> omega) | fail) only [go_sem, simprocAttr]; omega, fun b hb _ => by simp only [AHeap.upd_n] at hb; simp (disch := first | omega | (simp only [hN] <;> omega) | fail) only [go_sem, simprocAttr]⟩
    have hfH : ∀ b', b' < h.n → b' ≠ r → H.get b' = h.get b' := fun b' hb1 hb2 => by rw [← hH]; simp (disch := first | omega | (simp only [hN] <;> omega) | fail) only [go_sem, simprocAttr, hf]
    clear hH hr ht ht' hc hcr hp2 hf t2 q2 hpos c1 c2 c0 hne
    generalize (hdT E ts).pos = P at *
    generalize (hdT E ts).text = T at *
    generalize (hdT E ts).kind = K at *
    generalize (hdT E ts).n = KN at *
    generalize (hdT E ts).bits = KB at *
    have hsm1 : ts.tail.length ≤ 2000 := by omega
    generalize ts.tail = ts1 at *
    have hfe := takeP_fine (E := E) (k := 1) (by decide) (ts := ts1)
    unfold takeP at hfe
    refine take_tok (k := 1) hpH (by decide) ?_
    by_cases hk : (hdT E ts1).kind = 1
    · rw [if_pos hk] at hQ hfe ⊢
      simp only [FE] at hQ hfe
      intro h3 hf3 hp3
      have hn3 := hf3.n; try simp only [hN] at hn3
      have t3 := (hf3.old B (by omega) (by omega)).trans t0
      have n3 := (hf3.old h2.n (by omega) (by omega)).trans n0
      have q3 := (hf3.old h.n (by omega) (by omega)).trans q0
      have hf3' : ∀ b', b' < h.n → b' ≠ r → h3.get b' = h.get b' := fun b' hb1 hb2 => by simp (disch := first | omega | (simp only [hN] <;> omega) | fail) only [go_sem, simprocAttr, hf3.old, hfH]
      clear hf3 hfH q0 hpH
      simp (disch := first | omega | (simp only [hN] <;> omega) | fail) only [go_sem, simprocAttr, tokAV, t3, n3, t0, n0, zN, d1, d2]
      generalize (hdT E ts1).text = M at *
      generalize ts1.tail = ts2 at *
      generalize hH : AHeap.upd h3 h2.n _ _ = H4
      have hHn4 : H4.n = h3.n := by rw [← hH]; simp (disch := first | omega | (simp only [hN] <;> omega) | fail) only [go_sem, simprocAttr]
      have t4 : H4.get B = some ⟨1, .cells .own 0 [.int .i64 (K : Int), .str T, .int .i64 (KN : Int), .int .u64 (KB : Int), .int .i64 (P : Int)]⟩ := by rw [← hH]; simp (disch := first | omega | (simp only [hN] <;> omega) | fail) only [go_sem, simprocAttr, t3]
      have n4 : H4.get h2.n = some ⟨1, .cells .own 0 [.int .i64 0, .int .i64 (P : Int), .str M, .int .i64 0, .int .i64 0, .int .i64 0, .int .i64 0, .int .u64 0, .nilSlice]⟩ := by rw [← hH]; simp (disch := first | omega | (simp only [hN] <;> omega) | fail) only [go_sem, simprocAttr]
      have q4 : H4.get h.n = some ⟨0, .cells .own 0 zN⟩ := by rw [← hH]; simp (disch := first | omega | (simp only [hN] <;> omega) | fail) only [go_sem, simprocAttr, q3]
      have hp4 : PInv H4 r E ts2 0 := by rw [← hH]; exact hp3.le (by simp (disch := first | omega | (simp only [hN] <;> omega) | fail) only [go_sem, simprocAttr]; omega) fun b hb => by simp (disch := first | omega | (simp only [hN] <;> omega) | fail) only [go_sem, simprocAttr]
      have hf4 : ∀ b', b' < h.n → b' ≠ r → H4.get b' = h.get b' := fun b' hb1 hb2 => by rw [← hH]; simp (disch := first | omega | (simp only [hN] <;> omega) | fail) only [go_sem, simprocAttr, hf3']
      clear hH hf3' hp3 t3 n3 q3 n0 t0
      unfold mustP at hQ
      by_cases g : T = [109, 117, 116, 101, 120]
      · rw [if_pos g] at hQ
        simp (disch := first | omega | (simp only [hN] <;> omega) | fail) only [go_sem, simprocAttr, t4, n4, eq_bs g]
        generalize hH : AHeap.upd H4 h2.n _ _ = HX
        have hnHX : HX.n = H4.n := by rw [← hH]; simp (disch := first | omega | (simp only [hN] <;> omega) | fail) only [go_sem, simprocAttr]
        have nHX : HX.get h2.n = some ⟨2, .cells .own 0 [.int .i64 4, .int .i64 (P : Int), .str M, .int .i64 0, .int .i64 0, .int .i64 0, .int .i64 0, .int .u64 0, .nilSlice]⟩ := by rw [← hH]; simp (disch := first | omega | (simp only [hN] <;> omega) | fail) only [go_sem, simprocAttr]
        have qHX : HX.get h.n = some ⟨0, .cells .own 0 zN⟩ := by rw [← hH]; simp (disch := first | omega | (simp only [hN] <;> omega) | fail) only [go_sem, simprocAttr, q4]
        have hpHX : PInv HX r E ts2 0 := by rw [← hH]; exact hp4.le (by simp (disch := first | omega | (simp only [hN] <;> omega) | fail) only [go_sem, simprocAttr]; omega) fun b hb => by simp (disch := first | omega | (simp only [hN] <;> omega) | fail) only [go_sem, simprocAttr]
        have hfHX : ∀ b', b' < h.n → b' ≠ r → HX.get b' = h.get b' := fun b' hb1 hb2 => by rw [← hH]; simp (disch := first | omega | (simp only [hN] <;> omega) | fail) only [go_sem, simprocAttr, hf4]
        clear hH
        refine must_tok hpHX ?_
        by_cases cm : isT [[59]] ts2 = true
        · rw [if_pos cm] at hQ ⊢
          simp only at hQ
          intro h9 hf9 hp9
          have hn9 := hf9.n; try simp only [hN] at hn9
          have n9 := (hf9.old h2.n (by omega) (by omega)).trans nHX
          have q9 := (hf9.old h.n (by omega) (by omega)).trans qHX
          simp (disch := first | omega | (simp only [hN] <;> omega) | fail) only [go_sem, simprocAttr, n9, q9, zN]
          exact hQ _ .nilSlice ⟨by first | omega | (simp only [hN]; omega), fun b hb hne => by (try simp only [hN] at hb hne); simp (disch := first | omega | (simp only [hN] <;> omega) | fail) only [go_sem, simprocAttr, hf9.old, hfHX]⟩ (hp9.le (by simp (disch := first | omega | (simp only [hN] <;> omega) | fail) only [go_sem, simprocAttr]; omega) fun b hb => by simp (disch := first | omega | (simp only [hN] <;> omega) | fail) only [go_sem, simprocAttr]) .nil
        · rw [if_neg cm] at hQ ⊢
          intro h9 hf9
          have hn9 := hf9.n; try simp only [hN] at hn9
          simp (disch := first | omega | (simp only [hN] <;> omega) | fail) only [go_sem, simprocAttr]
          exact hQ _ ⟨by first | omega | (simp only [hN]; omega), fun b hb hne => by (try simp only [hN] at hb hne); simp (disch := first | omega | (simp only [hN] <;> omega) | fail) only [go_sem, simprocAttr, hf9.old, hfHX]⟩
      rw [if_neg g] at hQ
      simp (disch := first | omega | (simp only [hN] <;> omega) | fail) only [go_sem, simprocAttr, t4, n4, ne_bs g]
      clear g
      by_cases g : T = [97, 116, 111, 109, 105, 99]
      · rw [if_pos g] at hQ
        simp (disch := first | omega | (simp only [hN] <;> omega) | fail) only [go_sem, simprocAttr, t4, n4, eq_bs g]
        generalize hH : AHeap.upd H4 h2.n _ _ = HX
        have hnHX : HX.n = H4.n := by rw [← hH]; simp (disch := first | omega | (simp only [hN] <;> omega) | fail) only [go_sem, simprocAttr]
        have nHX : HX.get h2.n = some ⟨2, .cells .own 0 [.int .i64 6, .int .i64 (P : Int), .str M, .int .i64 0, .int .i64 0, .int .i64 0, .int .i64 0, .int .u64 0, .nilSlice]⟩ := by rw [← hH]; simp (disch := first | omega | (simp only [hN] <;> omega) | fail) only [go_sem, simprocAttr]
        have qHX : HX.get h.n = some ⟨0, .cells .own 0 zN⟩ := by rw [← hH]; simp (disch := first | omega | (simp only [hN] <;> omega) | fail) only [go_sem, simprocAttr, q4]
        have hpHX : PInv HX r E ts2 0 := by rw [← hH]; exact hp4.le (by simp (disch := first | omega | (simp only [hN] <;> omega) | fail) only [go_sem, simprocAttr]; omega) fun b hb => by simp (disch := first | omega | (simp only [hN] <;> omega) | fail) only [go_sem, simprocAttr]
        have hfHX : ∀ b', b' < h.n → b' ≠ r → HX.get b' = h.get b' := fun b' hb1 hb2 => by rw [← hH]; simp (disch := first | omega | (simp only [hN] <;> omega) | fail) only [go_sem, simprocAttr, hf4]
        clear hH
        refine must_tok hpHX ?_
        by_cases cm : isT [[59]] ts2 = true
        · rw [if_pos cm] at hQ ⊢
          simp only at hQ
          intro h9 hf9 hp9
          have hn9 := hf9.n; try simp only [hN] at hn9
          have n9 := (hf9.old h2.n (by omega) (by omega)).trans nHX
          have q9 := (hf9.old h.n (by omega) (by omega)).trans qHX
          simp (disch := first | omega | (simp only [hN] <;> omega) | fail) only [go_sem, simprocAttr, n9, q9, zN]
          exact hQ _ .nilSlice ⟨by first | omega | (simp only [hN]; omega), fun b hb hne => by (try simp only [hN] at hb hne); simp (disch := first | omega | (simp only [hN] <;> omega) | fail) only [go_sem, simprocAttr, hf9.old, hfHX]⟩ (hp9.le (by simp (disch := first | omega | (simp only [hN] <;> omega) | fail) only [go_sem, simprocAttr]; omega) fun b hb => by simp (disch := first | omega | (simp only [hN] <;> omega) | fail) only [go_sem, simprocAttr]) .nil
        · rw [if_neg cm] at hQ ⊢
          intro h9 hf9
          have hn9 := hf9.n; try simp only [hN] at hn9
          simp (disch := first | omega | (simp only [hN] <;> omega) | fail) only [go_sem, simprocAttr]
          exact hQ _ ⟨by first | omega | (simp only [hN]; omega), fun b hb hne => by (try simp only [hN] at hb hne); simp (disch := first | omega | (simp only [hN] <;> omega) | fail) only [go_sem, simprocAttr, hf9.old, hfHX]⟩
      rw [if_neg g] at hQ
      simp (disch := first | omega | (simp only [hN] <;> omega) | fail) only [go_sem, simprocAttr, t4, n4, ne_bs g]
      clear g
      by_cases g : T = [99, 104, 97, 110]
      · rw [if_pos g] at hQ
        simp (disch := first | omega | (simp only [hN] <;> omega) | fail) only [go_sem, simprocAttr, t4, n4, eq_bs g]
        refine sized_tok hp4 ?_
        cases hx : sizedP E ts2 with
        | error e =>
          obtain ⟨e, p⟩ := e
          rw [hx] at hQ
          intro h5 hf5
          have hn5 := hf5.n; try simp only [hN] at hn5
          simp (disch := first | omega | (simp only [hN] <;> omega) | fail) only [go_sem, simprocAttr]
          exact hQ _ ⟨by first | omega | (simp only [hN]; omega), fun b hb hne => by (try simp only [hN] at hb hne); simp (disch := first | omega | (simp only [hN] <;> omega) | fail) only [go_sem, simprocAttr, hf5.old, hf4]⟩
        | ok y =>
          obtain ⟨n, ts5⟩ := y
          rw [hx] at hQ
          simp only at hQ
          intro h5 hf5 hp5
          have hn5 := hf5.n; try simp only [hN] at hn5
          have n5 := (hf5.old h2.n (by omega) (by omega)).trans n4
          have q5 := (hf5.old h.n (by omega) (by omega)).trans q4
          have hf5' : ∀ b', b' < h.n → b' ≠ r → h5.get b' = h.get b' := fun b' hb1 hb2 => by simp (disch := first | omega | (simp only [hN] <;> omega) | fail) only [go_sem, simprocAttr, hf5.old, hf4]
          clear hf5 hf4
          simp (disch := first | omega | (simp only [hN] <;> omega) | fail) only [go_sem, simprocAttr, n5]
          generalize hH : AHeap.upd (AHeap.upd h5 h2.n _ _) h2.n _ _ = HX
          have hnHX : HX.n = h5.n := by rw [← hH]; simp (disch := first | omega | (simp only [hN] <;> omega) | fail) only [go_sem, simprocAttr]
          have nHX : HX.get h2.n = some ⟨3, .cells .own 0 [.int .i64 5, .int .i64 (P : Int), .str M, .int .i64 0, .int .i64 (n : Int), .int .i64 0, .int .i64 0, .int .u64 0, .nilSlice]⟩ := by rw [← hH]; simp (disch := first | omega | (simp only [hN] <;> omega) | fail) only [go_sem, simprocAttr]
          have qHX : HX.get h.n = some ⟨0, .cells .own 0 zN⟩ := by rw [← hH]; simp (disch := first | omega | (simp only [hN] <;> omega) | fail) only [go_sem, simprocAttr, q5]
          have hpHX : PInv HX r E ts5 0 := by rw [← hH]; exact hp5.le (by simp (disch := first | omega | (simp only [hN] <;> omega) | fail) only [go_sem, simprocAttr]; omega) fun b hb => by simp (disch := first | omega | (simp only [hN] <;> omega) | fail) only [go_sem, simprocAttr]
          have hfHX : ∀ b', b' < h.n → b' ≠ r → HX.get b' = h.get b' := fun b' hb1 hb2 => by rw [← hH]; simp (disch := first | omega | (simp only [hN] <;> omega) | fail) only [go_sem, simprocAttr, hf5']
          clear hH
          clear hf5' n5 q5 hp5
          refine typ_tok hpHX ?_
          cases hx : typP E ts5 with
          | error e =>
            obtain ⟨e, p⟩ := e
            rw [hx] at hQ
            intro h5 hf5
            have hn5 := hf5.n; try simp only [hN] at hn5
            simp (disch := first | omega | (simp only [hN] <;> omega) | fail) only [go_sem, simprocAttr]
            exact hQ _ ⟨by first | omega | (simp only [hN]; omega), fun b hb hne => by (try simp only [hN] at hb hne); simp (disch := first | omega | (simp only [hN] <;> omega) | fail) only [go_sem, simprocAttr, hf5.old, hfHX]⟩
          | ok y =>
            obtain ⟨y, ts6⟩ := y
            rw [hx] at hQ
            simp only at hQ
            intro h6 hf6 hp6
            have hn6 := hf6.n; try simp only [hN] at hn6
            have n6 := (hf6.old h2.n (by omega) (by omega)).trans nHX
            have q6 := (hf6.old h.n (by omega) (by omega)).trans qHX
            have hf6' : ∀ b', b' < h.n → b' ≠ r → h6.get b' = h.get b' := fun b' hb1 hb2 => by simp (disch := first | omega | (simp only [hN] <;> omega) | fail) only [go_sem, simprocAttr, hf6.old, hfHX]
            clear hf6 hfHX
            simp (disch := first | omega | (simp only [hN] <;> omega) | fail) only [go_sem, simprocAttr, n6]
            generalize hH : AHeap.upd h6 h2.n _ _ = HY
            have hnHY : HY.n = h6.n := by rw [← hH]; simp (disch := first | omega | (simp only [hN] <;> omega) | fail) only [go_sem, simprocAttr]
            have nHY : HY.get h2.n = some ⟨4, .cells .own 0 [.int .i64 5, .int .i64 (P : Int), .str M, .int .i64 (y : Int), .int .i64 (n : Int), .int .i64 0, .int .i64 0, .int .u64 0, .nilSlice]⟩ := by rw [← hH]; simp (disch := first | omega | (simp only [hN] <;> omega) | fail) only [go_sem, simprocAttr]
            have qHY : HY.get h.n = some ⟨0, .cells .own 0 zN⟩ := by rw [← hH]; simp (disch := first | omega | (simp only [hN] <;> omega) | fail) only [go_sem, simprocAttr, q6]
            have hpHY : PInv HY r E ts6 0 := by rw [← hH]; exact hp6.le (by simp (disch := first | omega | (simp only [hN] <;> omega) | fail) only [go_sem, simprocAttr]; omega) fun b hb => by simp (disch := first | omega | (simp only [hN] <;> omega) | fail) only [go_sem, simprocAttr]
            have hfHY : ∀ b', b' < h.n → b' ≠ r → HY.get b' = h.get b' := fun b' hb1 hb2 => by rw [← hH]; simp (disch := first | omega | (simp only [hN] <;> omega) | fail) only [go_sem, simprocAttr, hf6']
            clear hH
            refine must_tok hpHY ?_
            by_cases cm : isT [[59]] ts6 = true
            · rw [if_pos cm] at hQ ⊢
              simp only at hQ
              intro h9 hf9 hp9
              have hn9 := hf9.n; try simp only [hN] at hn9
              have n9 := (hf9.old h2.n (by omega) (by omega)).trans nHY
              have q9 := (hf9.old h.n (by omega) (by omega)).trans qHY
              simp (disch := first | omega | (simp only [hN] <;> omega) | fail) only [go_sem, simprocAttr, n9, q9, zN]
              exact hQ _ .nilSlice ⟨by first | omega | (simp only [hN]; omega), fun b hb hne => by (try simp only [hN] at hb hne); simp (disch := first | omega | (simp only [hN] <;> omega) | fail) only [go_sem, simprocAttr, hf9.old, hfHY]⟩ (hp9.le (by simp (disch := first | omega | (simp only [hN] <;> omega) | fail) only [go_sem, simprocAttr]; omega) fun b hb => by simp (disch := first | omega | (simp only [hN] <;> omega) | fail) only [go_sem, simprocAttr]) .nil
            · rw [if_neg cm] at hQ ⊢
              intro h9 hf9
              have hn9 := hf9.n; try simp only [hN] at hn9
              simp (disch := first | omega | (simp only [hN] <;> omega) | fail) only [go_sem, simprocAttr]
              exact hQ _ ⟨by first | omega | (simp only [hN]; omega), fun b hb hne => by (try simp only [hN] at hb hne); simp (disch := first | omega | (simp only [hN] <;> omega) | fail) only [go_sem, simprocAttr, hf9.old, hfHY]⟩
      rw [if_neg g] at hQ
      simp (disch := first | omega | (simp only [hN] <;> omega) | fail) only [go_sem, simprocAttr, t4, n4, ne_bs g]
      clear g
      by_cases g : T = [102, 117, 110, 99]
      · rw [if_pos g] at hQ
        simp (disch := first | omega | (simp only [hN] <;> omega) | fail) only [go_sem, simprocAttr, t4, n4, eq_bs g]
        generalize hH : AHeap.upd H4 h2.n _ _ = HX
        have hnHX : HX.n = H4.n := by rw [← hH]; simp (disch := first | omega | (simp only [hN] <;> omega) | fail) only [go_sem, simprocAttr]
        have nHX : HX.get h2.n = some ⟨2, .cells .own 0 [.int .i64 7, .int .i64 (P : Int), .str M, .int .i64 0, .int .i64 0, .int .i64 0, .int .i64 0, .int .u64 0, .nilSlice]⟩ := by rw [← hH]; simp (disch := first | omega | (simp only [hN] <;> omega) | fail) only [go_sem, simprocAttr]
        have qHX : HX.get h.n = some ⟨0, .cells .own 0 zN⟩ := by rw [← hH]; simp (disch := first | omega | (simp only [hN] <;> omega) | fail) only [go_sem, simprocAttr, q4]
        have hpHX : PInv HX r E ts2 0 := by rw [← hH]; exact hp4.le (by simp (disch := first | omega | (simp only [hN] <;> omega) | fail) only [go_sem, simprocAttr]; omega) fun b hb => by simp (disch := first | omega | (simp only [hN] <;> omega) | fail) only [go_sem, simprocAttr]
        have hfHX : ∀ b', b' < h.n → b' ≠ r → HX.get b' = h.get b' := fun b' hb1 hb2 => by rw [← hH]; simp (disch := first | omega | (simp only [hN] <;> omega) | fail) only [go_sem, simprocAttr, hf4]
        clear hH
        have hs2 : ts2.length ≤ 2000 := by omega
        have hpe := paramsP_fine (E := E) (ts := ts2)
        refine params_tok (b := h2.n) (ver := 2) hpHX hs2 (by omega) (by omega) nHX ?_
        cases hx : paramsP E ts2 with
        | error e =>
          obtain ⟨e, p⟩ := e
          rw [hx] at hQ
          intro h5 hf5
          obtain ⟨hn5, ho5⟩ := hf5
          simp (disch := first | omega | (simp only [hN] <;> omega) | fail) only [go_sem, simprocAttr]
          exact hQ _ ⟨by omega, fun b hb hne => by rw [ho5 b (by omega) hne (by omega), hfHX b hb hne]⟩
        | ok y =>
          obtain ⟨ps, ts3⟩ := y
          rw [hx] at hQ hpe
          simp only [FE] at hQ hpe
          intro h5 v ver5 hfo hp5 n5 hg5
          obtain ⟨hn5, ho5⟩ := hfo
          have q5 := (ho5 h.n (by omega) (by omega) (by omega)).trans qHX
          have hf5 : ∀ b', b' < h.n → b' ≠ r → h5.get b' = h.get b' := fun b' hb1 hb2 => by rw [ho5 b' (by omega) hb2 (by omega), hfHX b' hb1 hb2]
          have d3 : decide (h2.n = h5.n) = false := decide_eq_false (by omega)
          have hpl : ps.length ≤ 2000 := paramsP_len hx hs2
          have hlt5 := hp5.hi
          clear ho5 hfHX qHX nHX hpHX hp4 hf4 q4 n4 t4
          simp (disch := first | omega | (simp only [hN] <;> omega) | fail) only [go_sem, simprocAttr, n5, d3]
          have hs3 : ts3.length ≤ 2000 := by omega
          refine blockP_tok (ts3.length + 1) (hp5.le (by simp (disch := first | omega | (simp only [hN] <;> omega) | fail) only [go_sem, simprocAttr]; omega) fun b hb => by simp (disch := first | omega | (simp only [hN] <;> omega) | fail) only [go_sem, simprocAttr]) hs3 (Nat.lt_succ_self _) ?_
          cases hy : blockP E (ts3.length + 1) 0 ts3 with
          | error e =>
            obtain ⟨e, p⟩ := e
            rw [hy] at hQ
            intro h6 hf6
            have hn6 := hf6.n; try simp only [hN] at hn6
            have n6 : h6.get h2.n = h5.get h2.n := by simp (disch := first | omega | (simp only [hN] <;> omega) | fail) only [go_sem, simprocAttr, hf6.old]
            have z6 : h6.get h5.n = some ⟨0, .cells .own 9 zN⟩ := by simp (disch := first | omega | (simp only [hN] <;> omega) | fail) only [go_sem, simprocAttr, hf6.old, zN]
            rw [n5] at n6
            simp (disch := first | omega | (simp only [hN] <;> omega) | fail) only [go_sem, simprocAttr, n5, n6, z6, hg5.len]
            exact hQ _ ⟨by first | omega | (simp only [hN]; omega), fun b hb hne => by (try simp only [hN] at hb hne); simp (disch := first | omega | (simp only [hN] <;> omega) | fail) only [go_sem, simprocAttr, hf6.old, hf5]⟩
          | ok y =>
            obtain ⟨x, ts4⟩ := y
            rw [hy] at hQ
            simp only at hQ
            intro h6 kx hf6 hp6 hk6
            have hn6 := hf6.n; try simp only [hN] at hn6
            have n6 : h6.get h2.n = h5.get h2.n := by simp (disch := first | omega | (simp only [hN] <;> omega) | fail) only [go_sem, simprocAttr, hf6.old]
            have z6 : h6.get h5.n = some ⟨0, .cells .own 9 zN⟩ := by simp (disch := first | omega | (simp only [hN] <;> omega) | fail) only [go_sem, simprocAttr, hf6.old, zN]
            have q6 : h6.get h.n = some ⟨0, .cells .own 0 zN⟩ := by simp (disch := first | omega | (simp only [hN] <;> omega) | fail) only [go_sem, simprocAttr, hf6.old, q5, zN]
            rw [n5] at n6
            have hg6 : GKids HX.n h6 v ps := hg5.keep (by omega) fun b _ _ _ hb1 hb2 _ => by simp (disch := first | omega | (simp only [hN] <;> omega) | fail) only [go_sem, simprocAttr, hf6.old]
            have hk6' : KidsR (h5.n + 1) h6 x.kids kx := hk6.keep (by simp (disch := first | omega | (simp only [hN] <;> omega) | fail) only [go_sem, simprocAttr]; omega) (Nat.le_refl _) fun _ _ _ => rfl
            have hf6' : ∀ b', b' < h.n → b' ≠ r → h6.get b' = h.get b' := fun b' hb1 hb2 => by simp (disch := first | omega | (simp only [hN] <;> omega) | fail) only [go_sem, simprocAttr, hf6.old, hf5]
            obtain ⟨h7, css, happ, hn7, g7, hlay, hg7, ho7⟩ := hg6.zapp (m := h5.n + 1) (n := x) (kv := kx) (by omega) (by omega) hk6' (by omega) (fun b hb => by have := (hg5.blk hb).2; omega)
            have hv : ∀ b, b < HX.n → blkV v ≠ some b := fun b hb e => by have := hg5.blk e; omega
            have n7 := (ho7 h2.n (by omega) (hv _ (by omega))).trans n6
            have q7 := (ho7 h.n (by omega) (hv _ (by omega))).trans q6
            have hf7 : ∀ b', b' < h.n → b' ≠ r → h7.get b' = h.get b' := fun b' hb1 hb2 => by rw [ho7 b' (by omega) (hv _ (by omega)), hf6' b' hb1 hb2]
            have hp7 : PInv h7 r E ts4 0 := hp6.le (by omega) fun b hb => ho7 b (by omega) (hv _ (by omega))
            have d4 : decide (h6.n = h2.n) = false := decide_eq_false (by omega)
            have fl := hk6.flat
            have hl := hg5.len
            clear hf6 hk6 hk6' hf6' hg5 hg6 ho7 hp6 q6 hf5 q5
            simp only [ndC, zN] at happ hlay
            simp (disch := first | omega | (simp only [hN] <;> omega) | fail) only [go_sem, simprocAttr, n5, n6, z6, zN, hl, happ, g7, hlay, n7, d4, q7, fl.1, fl.2]
            exact hQ _ _ ⟨by first | omega | (simp only [hN]; omega), fun b hb hne => by (try simp only [hN] at hb hne); simp (disch := first | omega | (simp only [hN] <;> omega) | fail) only [go_sem, simprocAttr, hf7]⟩ (hp7.le (by simp (disch := first | omega | (simp only [hN] <;> omega) | fail) only [go_sem, simprocAttr]; omega) fun b hb => by simp (disch := first | omega | (simp only [hN] <;> omega) | fail) only [go_sem, simprocAttr]) ((hg7.kids (by rw [List.length_append, List.length_cons, List.length_nil]; omega)).keep9 (by omega) (by simp (disch := first | omega | (simp only [hN] <;> omega) | fail) only [go_sem, simprocAttr]; omega) fun b _ _ _ hb1 hb2 hb3 => by simp (disch := first | omega | (simp only [hN] <;> omega) | fail) only [go_sem, simprocAttr, ndC])
      rw [if_neg g] at hQ
      simp (disch := first | omega | (simp only [hN] <;> omega) | fail) only [go_sem, simprocAttr, t4, n4, ne_bs g]
      clear g
      generalize hH : AHeap.upd H4 h2.n _ _ = HV
      have hnHV : HV.n = H4.n := by rw [← hH]; simp (disch := first | omega | (simp only [hN] <;> omega) | fail) only [go_sem, simprocAttr]
      have nHV : HV.get h2.n = some ⟨2, .cells .own 0 [.int .i64 2, .int .i64 (P : Int), .str M, .int .i64 0, .int .i64 0, .int .i64 0, .int .i64 0, .int .u64 0, .nilSlice]⟩ := by rw [← hH]; simp (disch := first | omega | (simp only [hN] <;> omega) | fail) only [go_sem, simprocAttr]
      have qHV : HV.get h.n = some ⟨0, .cells .own 0 zN⟩ := by rw [← hH]; simp (disch := first | omega | (simp only [hN] <;> omega) | fail) only [go_sem, simprocAttr, q4]
      have hpHV : PInv HV r E ts2 0 := by rw [← hH]; exact hp4.le (by simp (disch := first | omega | (simp only [hN] <;> omega) | fail) only [go_sem, simprocAttr]; omega) fun b hb => by simp (disch := first | omega | (simp only [hN] <;> omega) | fail) only [go_sem, simprocAttr]
      have hfHV : ∀ b', b' < h.n → b' ≠ r → HV.get b' = h.get b' := fun b' hb1 hb2 => by rw [← hH]; simp (disch := first | omega | (simp only [hN] <;> omega) | fail) only [go_sem, simprocAttr, hf4]
      have tHV : HV.get B = some ⟨1, .cells .own 0 [.int .i64 (K : Int), .str T, .int .i64 (KN : Int), .int .u64 (KB : Int), .int .i64 (P : Int)]⟩ := by rw [← hH]; simp (disch := first | omega | (simp only [hN] <;> omega) | fail) only [go_sem, simprocAttr, t4]
      clear hH
      refine is_tok (ws := [[91]]) (md := .own) (ver := 0) (E := E) (ts := ts2) (lv := 0) (hpHV.fr ⟨by first | omega | (simp only [hN]; omega), fun b hb hne => by (try simp only [hN] at hb hne); simp (disch := first | omega | (simp only [hN] <;> omega) | fail) only [go_sem, simprocAttr]⟩) (by (first | (simp (disch := first | omega | (simp only [hN] <;> omega) | fail) only [go_sem, simprocAttr, List.map]; done) | (simp (disch := first | omega | (simp only [hN] <;> omega) | fail) only [go_sem, simprocAttr, List.map]; rfl))) (by simp (disch := first | omega | (simp only [hN] <;> omega) | fail) only [go_sem, simprocAttr]; omega) (show 1 < 2 ^ 62 by decide) ?_
      intro h7 hf7
      have hn7 := hf7.n; try simp only [hN] at hn7
      have n7 : h7.get h2.n = HV.get h2.n := by simp (disch := first | omega | (simp only [hN] <;> omega) | fail) only [go_sem, simprocAttr, hf7.old]
      have q7 : h7.get h.n = HV.get h.n := by simp (disch := first | omega | (simp only [hN] <;> omega) | fail) only [go_sem, simprocAttr, hf7.old]
      rw [nHV] at n7
      rw [qHV] at q7
      have hp7 : PInv h7 r E ts2 0 := hpHV.fr ⟨by first | omega | (simp only [hN]; omega), fun b hb hne => by (try simp only [hN] at hb hne); simp (disch := first | omega | (simp only [hN] <;> omega) | fail) only [go_sem, simprocAttr, hf7.old]⟩
      have hfr7 : ∀ b', b' < h.n → b' ≠ r → h7.get b' = h.get b' := fun b' hb1 hb2 => by simp (disch := first | omega | (simp only [hN] <;> omega) | fail) only [go_sem, simprocAttr, hf7.old, hfHV]
      clear hf7 hfHV hpHV qHV nHV tHV hp4 hf4 q4 n4 t4
      cases ci : isT [[91]] ts2
      · rw [if_neg (by rw [ci]; decide)] at hQ
        simp (disch := first | omega | (simp only [hN] <;> omega) | fail) only [go_sem, simprocAttr]
        refine typ_tok hp7 ?_
        cases hx : typP E ts2 with
        | error e =>
          obtain ⟨e, p⟩ := e
          rw [hx] at hQ
          intro h5 hf5
          have hn5 := hf5.n; try simp only [hN] at hn5
          simp (disch := first | omega | (simp only [hN] <;> omega) | fail) only [go_sem, simprocAttr]
          exact hQ _ ⟨by first | omega | (simp only [hN]; omega), fun b hb hne => by (try simp only [hN] at hb hne); simp (disch := first | omega | (simp only [hN] <;> omega) | fail) only [go_sem, simprocAttr, hf5.old, hfr7]⟩
        | ok y =>
          obtain ⟨y, ts6⟩ := y
          rw [hx] at hQ
          simp only at hQ
          intro h6 hf6 hp6
          have hn6 := hf6.n; try simp only [hN] at hn6
          have n6 := (hf6.old h2.n (by omega) (by omega)).trans n7
          have q6 := (hf6.old h.n (by omega) (by omega)).trans q7
          have hf6' : ∀ b', b' < h.n → b' ≠ r → h6.get b' = h.get b' := fun b' hb1 hb2 => by simp (disch := first | omega | (simp only [hN] <;> omega) | fail) only [go_sem, simprocAttr, hf6.old, hfr7]
          clear hf6 hfr7
          simp (disch := first | omega | (simp only [hN] <;> omega) | fail) only [go_sem, simprocAttr, n6]
          generalize hH : AHeap.upd h6 h2.n _ _ = HY
          have hnHY : HY.n = h6.n := by rw [← hH]; simp (disch := first | omega | (simp only [hN] <;> omega) | fail) only [go_sem, simprocAttr]
          have nHY : HY.get h2.n = some ⟨3, .cells .own 0 [.int .i64 2, .int .i64 (P : Int), .str M, .int .i64 (y : Int), .int .i64 0, .int .i64 0, .int .i64 0, .int .u64 0, .nilSlice]⟩ := by rw [← hH]; simp (disch := first | omega | (simp only [hN] <;> omega) | fail) only [go_sem, simprocAttr]
          have qHY : HY.get h.n = some ⟨0, .cells .own 0 zN⟩ := by rw [← hH]; simp (disch := first | omega | (simp only [hN] <;> omega) | fail) only [go_sem, simprocAttr, q6]
          have hpHY : PInv HY r E ts6 0 := by rw [← hH]; exact hp6.le (by simp (disch := first | omega | (simp only [hN] <;> omega) | fail) only [go_sem, simprocAttr]; omega) fun b hb => by simp (disch := first | omega | (simp only [hN] <;> omega) | fail) only [go_sem, simprocAttr]
          have hfHY : ∀ b', b' < h.n → b' ≠ r → HY.get b' = h.get b' := fun b' hb1 hb2 => by rw [← hH]; simp (disch := first | omega | (simp only [hN] <;> omega) | fail) only [go_sem, simprocAttr, hf6']
          clear hH
          refine must_tok hpHY ?_
          by_cases cm : isT [[59]] ts6 = true
          · rw [if_pos cm] at hQ ⊢
            simp only at hQ
            intro h9 hf9 hp9
            have hn9 := hf9.n; try simp only [hN] at hn9
            have n9 := (hf9.old h2.n (by omega) (by omega)).trans nHY
            have q9 := (hf9.old h.n (by omega) (by omega)).trans qHY
            simp (disch := first | omega | (simp only [hN] <;> omega) | fail) only [go_sem, simprocAttr, n9, q9, zN]
            exact hQ _ .nilSlice ⟨by first | omega | (simp only [hN]; omega), fun b hb hne => by (try simp only [hN] at hb hne); simp (disch := first | omega | (simp only [hN] <;> omega) | fail) only [go_sem, simprocAttr, hf9.old, hfHY]⟩ (hp9.le (by simp (disch := first | omega | (simp only [hN] <;> omega) | fail) only [go_sem, simprocAttr]; omega) fun b hb => by simp (disch := first | omega | (simp only [hN] <;> omega) | fail) only [go_sem, simprocAttr]) .nil
          · rw [if_neg cm] at hQ ⊢
            intro h9 hf9
            have hn9 := hf9.n; try simp only [hN] at hn9
            simp (disch := first | omega | (simp only [hN] <;> omega) | fail) only [go_sem, simprocAttr]
            exact hQ _ ⟨by first | omega | (simp only [hN]; omega), fun b hb hne => by (try simp only [hN] at hb hne); simp (disch := first | omega | (simp only [hN] <;> omega) | fail) only [go_sem, simprocAttr, hf9.old, hfHY]⟩
      · rw [if_pos ci] at hQ
        simp (disch := first | omega | (simp only [hN] <;> omega) | fail) only [go_sem, simprocAttr]
        refine sized_tok hp7 ?_
        cases hx : sizedP E ts2 with
        | error e =>
          obtain ⟨e, p⟩ := e
          rw [hx] at hQ
          intro h5 hf5
          have hn5 := hf5.n; try simp only [hN] at hn5
          simp (disch := first | omega | (simp only [hN] <;> omega) | fail) only [go_sem, simprocAttr]
          exact hQ _ ⟨by first | omega | (simp only [hN]; omega), fun b hb hne => by (try simp only [hN] at hb hne); simp (disch := first | omega | (simp only [hN] <;> omega) | fail) only [go_sem, simprocAttr, hf5.old, hfr7]⟩
        | ok y =>
          obtain ⟨n, ts5⟩ := y
          rw [hx] at hQ
          simp only at hQ
          intro h5 hf5 hp5
          have hn5 := hf5.n; try simp only [hN] at hn5
          have n5 := (hf5.old h2.n (by omega) (by omega)).trans n7
          have q5 := (hf5.old h.n (by omega) (by omega)).trans q7
          have hf5' : ∀ b', b' < h.n → b' ≠ r → h5.get b' = h.get b' := fun b' hb1 hb2 => by simp (disch := first | omega | (simp only [hN] <;> omega) | fail) only [go_sem, simprocAttr, hf5.old, hfr7]
          clear hf5 hfr7
          simp (disch := first | omega | (simp only [hN] <;> omega) | fail) only [go_sem, simprocAttr, n5]
          generalize hH : AHeap.upd (AHeap.upd h5 h2.n _ _) h2.n _ _ = HX
          have hnHX : HX.n = h5.n := by rw [← hH]; simp (disch := first | omega | (simp only [hN] <;> omega) | fail) only [go_sem, simprocAttr]
          have nHX : HX.get h2.n = some ⟨4, .cells .own 0 [.int .i64 3, .int .i64 (P : Int), .str M, .int .i64 0, .int .i64 (n : Int), .int .i64 0, .int .i64 0, .int .u64 0, .nilSlice]⟩ := by rw [← hH]; simp (disch := first | omega | (simp only [hN] <;> omega) | fail) only [go_sem, simprocAttr]
          have qHX : HX.get h.n = some ⟨0, .cells .own 0 zN⟩ := by rw [← hH]; simp (disch := first | omega | (simp only [hN] <;> omega) | fail) only [go_sem, simprocAttr, q5]
          have hpHX : PInv HX r E ts5 0 := by rw [← hH]; exact hp5.le (by simp (disch := first | omega | (simp only [hN] <;> omega) | fail) only [go_sem, simprocAttr]; omega) fun b hb => by simp (disch := first | omega | (simp only [hN] <;> omega) | fail) only [go_sem, simprocAttr]
          have hfHX : ∀ b', b' < h.n → b' ≠ r → HX.get b' = h.get b' := fun b' hb1 hb2 => by rw [← hH]; simp (disch := first | omega | (simp only [hN] <;> omega) | fail) only [go_sem, simprocAttr, hf5']
          clear hH
          clear hf5' n5 q5 hp5
          refine typ_tok hpHX ?_
          cases hx : typP E ts5 with
          | error e =>
            obtain ⟨e, p⟩ := e
            rw [hx] at hQ
            intro h5 hf5
            have hn5 := hf5.n; try simp only [hN] at hn5
            simp (disch := first | omega | (simp only [hN] <;> omega) | fail) only [go_sem, simprocAttr]
            exact hQ _ ⟨by first | omega | (simp only [hN]; omega), fun b hb hne => by (try simp only [hN] at hb hne); simp (disch := first | omega | (simp only [hN] <;> omega) | fail) only [go_sem, simprocAttr, hf5.old, hfHX]⟩
          | ok y =>
            obtain ⟨y, ts6⟩ := y
            rw [hx] at hQ
            simp only at hQ
            intro h6 hf6 hp6
            have hn6 := hf6.n; try simp only [hN] at hn6
            have n6 := (hf6.old h2.n (by omega) (by omega)).trans nHX
            have q6 := (hf6.old h.n (by omega) (by omega)).trans qHX
            have hf6' : ∀ b', b' < h.n → b' ≠ r → h6.get b' = h.get b' := fun b' hb1 hb2 => by simp (disch := first | omega | (simp only [hN] <;> omega) | fail) only [go_sem, simprocAttr, hf6.old, hfHX]
            clear hf6 hfHX
            simp (disch := first | omega | (simp only [hN] <;> omega) | fail) only [go_sem, simprocAttr, n6]
            generalize hH : AHeap.upd h6 h2.n _ _ = HY
            have hnHY : HY.n = h6.n := by rw [← hH]; simp (disch := first | omega | (simp only [hN] <;> omega) | fail) only [go_sem, simprocAttr]
            have nHY : HY.get h2.n = some ⟨5, .cells .own 0 [.int .i64 3, .int .i64 (P : Int), .str M, .int .i64 (y : Int), .int .i64 (n : Int), .int .i64 0, .int .i64 0, .int .u64 0, .nilSlice]⟩ := by rw [← hH]; simp (disch := first | omega | (simp only [hN] <;> omega) | fail) only [go_sem, simprocAttr]
            have qHY : HY.get h.n = some ⟨0, .cells .own 0 zN⟩ := by rw [← hH]; simp (disch := first | omega | (simp only [hN] <;> omega) | fail) only [go_sem, simprocAttr, q6]
            have hpHY : PInv HY r E ts6 0 := by rw [← hH]; exact hp6.le (by simp (disch := first | omega | (simp only [hN] <;> omega) | fail) only [go_sem, simprocAttr]; omega) fun b hb => by simp (disch := first | omega | (simp only [hN] <;> omega) | fail) only [go_sem, simprocAttr]
            have hfHY : ∀ b', b' < h.n → b' ≠ r → HY.get b' = h.get b' := fun b' hb1 hb2 => by rw [← hH]; simp (disch := first | omega | (simp only [hN] <;> omega) | fail) only [go_sem, simprocAttr, hf6']
            clear hH
            refine must_tok hpHY ?_
            by_cases cm : isT [[59]] ts6 = true
            · rw [if_pos cm] at hQ ⊢
              simp only at hQ
              intro h9 hf9 hp9
              have hn9 := hf9.n; try simp only [hN] at hn9
              have n9 := (hf9.old h2.n (by omega) (by omega)).trans nHY
              have q9 := (hf9.old h.n (by omega) (by omega)).trans qHY
              simp (disch := first | omega | (simp only [hN] <;> omega) | fail) only [go_sem, simprocAttr, n9, q9, zN]
              exact hQ _ .nilSlice ⟨by first | omega | (simp only [hN]; omega), fun b hb hne => by (try simp only [hN] at hb hne); simp (disch := first | omega | (simp only [hN] <;> omega) | fail) only [go_sem, simprocAttr, hf9.old, hfHY]⟩ (hp9.le (by simp (disch := first | omega | (simp only [hN] <;> omega) | fail) only [go_sem, simprocAttr]; omega) fun b hb => by simp (disch := first | omega | (simp only [hN] <;> omega) | fail) only [go_sem, simprocAttr]) .nil
            · rw [if_neg cm] at hQ ⊢
              intro h9 hf9
              have hn9 := hf9.n; try simp only [hN] at hn9
              simp (disch := first | omega | (simp only [hN] <;> omega) | fail) only [go_sem, simprocAttr]
              exact hQ _ ⟨by first | omega | (simp only [hN]; omega), fun b hb hne => by (try simp only [hN] at hb hne); simp (disch := first | omega | (simp only [hN] <;> omega) | fail) only [go_sem, simprocAttr, hf9.old, hfHY]⟩
    · rw [if_neg hk] at hQ ⊢
      intro h3 hf3
      have hn3 := hf3.n; try simp only [hN] at hn3
      have t3 := (hf3.old B (by omega) (by omega)).trans t0
      have n3 := (hf3.old h2.n (by omega) (by omega)).trans n0
      simp (disch := first | omega | (simp only [hN] <;> omega) | fail) only [go_sem, simprocAttr, t3, t0, n0, n3]
      exact hQ _ ⟨by first | omega | (simp only [hN]; omega), fun b hb hne => by (try simp only [hN] at hb hne); simp (disch := first | omega | (simp only [hN] <;> omega) | fail) only [go_sem, simprocAttr, hf3.old, hfH]⟩
end Go.Ev
/- The tree's reader: programs (printed by gen59.py). -/
namespace Go.Ev
open Go
set_option maxRecDepth 100000
set_option maxHeartbeats 4000000

theorem prog_tok {E r : Nat} {ts : List Tok} {h : AHeap} {Q : QR} (hp : PInv h r E ts 0) (hsm : ts.length ≤ 2000) (hQ : PQ h r E 0 Q (progP E (ts.length + 1) 0 ts)) : WF F 47 [.ptr r 0] h Q := by
  refine WF.code F47 rfl ?_
  have hlt := hp.hi
  simp (disch := first | omega | (simp only [hN] <;> omega) | fail) only [go_sem, simprocAttr]
  refine here_tok (E := E) (lv := 0) (ts := ts) (hp.fr ⟨by first | omega | (simp only [hN]; omega), fun b hb hne => by (try simp only [hN] at hb hne); simp (disch := first | omega | (simp only [hN] <;> omega) | fail) only [go_sem, simprocAttr]⟩) ?_
  intro h1 hf1
  have hn1 := hf1.n; try simp only [hN] at hn1
  have hp1 : PInv h1 r E ts 0 := hp.fr ⟨by first | omega | (simp only [hN]; omega), fun b hb hne => by (try simp only [hN] at hb hne); simp (disch := first | omega | (simp only [hN] <;> omega) | fail) only [go_sem, simprocAttr, hf1.old]⟩
  simp (disch := first | omega | (simp only [hN] <;> omega) | fail) only [go_sem, simprocAttr, tokAV]
  unfold progP at hQ
  have hR : ∃ R, upToL (declP E) List.isEmpty (ts.length + 1) [] ts = R := ⟨_, rfl⟩
  obtain ⟨R, hR⟩ := hR
  rw [hR] at hQ
  have hz : R ≠ .error (0, 0) := by
    rw [← hR]
    exact (upToL_fine (m := ts.length + 1) (fun ts _ => declP_fine ts) (ts.length + 1) [] ts (Nat.lt_succ_self _) (Nat.lt_succ_self _)).ne
  generalize (hdT E ts).pos = P at *
  generalize hH : AHeap.upd (AHeap.alloc _ _) h1.n _ _ = H
  have hHn : H.n = h1.n + 1 := by rw [← hH]; simp (disch := first | omega | (simp only [hN] <;> omega) | fail) only [go_sem, simprocAttr]
  have b0 : H.get h1.n = some ⟨1, .cells .own 0 (ndC (nd0 1 P [] []) .nilSlice)⟩ := by rw [← hH]; simp (disch := first | omega | (simp only [hN] <;> omega) | fail) only [go_sem, simprocAttr, ndC, nd0, Nd.kind, Nd.pos, Nd.name, Nd.typ, Nd.n, Nd.size, Nd.obj, Nd.bits]
  have q0 : H.get h.n = some ⟨0, .cells .own 0 zN⟩ := by rw [← hH]; simp (disch := first | omega | (simp only [hN] <;> omega) | fail) only [go_sem, simprocAttr, hf1.old, zN]
  have hpH : PInv H r E ts 0 := by rw [← hH]; exact hp1.le (by simp (disch := first | omega | (simp only [hN] <;> omega) | fail) only [go_sem, simprocAttr]; omega) fun b hb => by simp (disch := first | omega | (simp only [hN] <;> omega) | fail) only [go_sem, simprocAttr]
  have hfH : ∀ b', b' < h.n → b' ≠ r → H.get b' = h.get b' := fun b' hb1 hb2 => by rw [← hH]; simp (disch := first | omega | (simp only [hN] <;> omega) | fail) only [go_sem, simprocAttr, hf1.old]
  have hnf : ts.length + 1 ≤ 2001 := by omega
  generalize ts.length + 1 = fu at *
  generalize h1.n = B at *
  clear hH hf1 hp1 hp
  refine wp_loopx 0 (fun g a h' => ∃ v ns ts2 v2, GKids h.n h' v ns ∧ PInv h' r E ts2 0 ∧ h'.get B = some ⟨v2, .cells .own 0 (ndC (nd0 1 P [] []) v)⟩ ∧ h'.get h.n = some ⟨0, .cells .own 0 zN⟩ ∧ B < h'.n ∧ (∀ b', b' < h.n → b' ≠ r → h'.get b' = h.get b') ∧ ns.length + g ≤ 2001 ∧ ts2.length ≤ 2000 ∧ upToL (declP E) List.isEmpty g ns ts2 = R ∧ a.tm.get 0 = some (.ptr r 0) ∧ a.tm.get 2 = some (.ptr h.n 0) ∧ a.tm.get 3 = some (.ptr B 0) ∧ a.df = [])
    (fun a h' => ∃ v ns ts2 v2, GKids h.n h' v ns ∧ PInv h' r E ts2 0 ∧ h'.get B = some ⟨v2, .cells .own 0 (ndC (nd0 1 P [] []) v)⟩ ∧ h'.get h.n = some ⟨0, .cells .own 0 zN⟩ ∧ B < h'.n ∧ (∀ b', b' < h.n → b' ≠ r → h'.get b' = h.get b') ∧ ns.length ≤ 2001 ∧ R = .ok (ns, ts2) ∧ a.tm.get 0 = some (.ptr r 0) ∧ a.tm.get 2 = some (.ptr h.n 0) ∧ a.tm.get 3 = some (.ptr B 0) ∧ a.df = []) ?_ ?_ fu ?_
  · rintro g ⟨t, df⟩ h4 ⟨v, ns, ts2, v2, hg4, hp4, b4, q4, hn4, hf4', hlen, hs2, hcl, k0, k2, k3, hdf⟩
    simp only at k0 k2 k3 hdf
    subst hdf
    have hlt3 := hp4.hi
    cases g with
    | zero => exact absurd hcl.symm hz
    | succ g =>
      rw [upToL] at hcl
      obtain ⟨ver, tv, hr, ht⟩ := hp4.st
      have htl := ht.len
      cases ts2 with
      | nil =>
        simp only [List.isEmpty_nil, if_true] at hcl
        have e0 : decide ((([] : List Tok).length : Int) > 0) = false := rfl
        simp (disch := first | omega | (simp only [hN] <;> omega) | fail) only [go_sem, simprocAttr, k0, k2, k3, hr, htl, e0]
        exact ⟨v, ns, [], v2, hg4, hp4, b4, q4, by omega, hf4', by omega, hcl.symm⟩
      | cons t0 tl =>
        simp only [List.isEmpty_cons, Bool.false_eq_true, if_false] at hcl
        have e0 : decide (((t0 :: tl).length : Int) > 0) = true := decide_eq_true (by rw [List.length_cons]; omega)
        generalize t0 :: tl = ts2 at *
        have b4l : h4.get B = some ⟨v2, .cells .own 0 [.int .i64 1, .int .i64 (P : Int), .str [], .int .i64 0, .int .i64 0, .int .i64 0, .int .i64 0, .int .u64 0, v]⟩ := b4
        simp (disch := first | omega | (simp only [hN] <;> omega) | fail) only [go_sem, simprocAttr, k0, k2, k3, hr, htl, e0, b4l]
        clear hr ht htl e0
        refine decl_tok (lv := 0) hp4 hs2 ?_
        have hfn := declP_fine (E := E) ts2
        cases hx : declP E ts2 with
        | error e =>
          obtain ⟨e, p⟩ := e
          rw [hx] at hcl
          simp only at hcl
          rw [← hcl] at hQ
          intro h5 hf5
          have hn5 := hf5.n; try simp only [hN] at hn5
          have b5l := (hf5.old B (by omega) (by omega)).trans b4l
          simp (disch := first | omega | (simp only [hN] <;> omega) | fail) only [go_sem, simprocAttr, b5l, b4l]
          exact hQ _ ⟨by first | omega | (simp only [hN]; omega), fun b hb hne => by (try simp only [hN] at hb hne); simp (disch := first | omega | (simp only [hN] <;> omega) | fail) only [go_sem, simprocAttr, hf5.old, hf4']⟩
        | ok y =>
          obtain ⟨n, ts3⟩ := y
          rw [hx] at hcl
          simp only at hcl
          rw [hx] at hfn
          simp only [FE] at hfn
          intro h5 kv hf5 hp5 hk5
          have hn5 := hf5.n; try simp only [hN] at hn5
          have b5l := (hf5.old B (by omega) (by omega)).trans b4l
          have q5 := (hf5.old h.n (by omega) (by omega)).trans q4
          have hg5 : GKids h.n (h5.alloc (.cells .own 9 (ndC n kv))) v ns := (hg4.fr hf5 (.inl hlt)).fr (Fr.alloc (Fr.refl h5.n h5) _) (.inr (Nat.le_refl _))
          obtain ⟨v6, h6, happ, hg6, hb6, hn6, ho6⟩ := hg5.append (by simp (disch := first | omega | (simp only [hN] <;> omega) | fail) only [go_sem, simprocAttr]; omega) (by omega) (hk5.keep (lo' := h4.n) (Nat.le_refl _) (by simp (disch := first | omega | (simp only [hN] <;> omega) | fail) only [go_sem, simprocAttr]; omega) fun b hb1 hb2 => by simp (disch := first | omega | (simp only [hN] <;> omega) | fail) only [go_sem, simprocAttr]) (by omega) (fun b hb => (hg4.blk hb).2)
          have hvB : blkV v ≠ some B := fun e => by
            obtain ⟨css, hsl, _⟩ := hg4
            obtain ⟨_, ⟨_, rfl⟩ | ⟨_, c, ver, rfl, _, _, hc⟩⟩ := hsl
            · cases e
            · cases e; rw [b4] at hc; cases hc
          have hvN : blkV v ≠ some h.n := fun e => by
            obtain ⟨css, hsl, _⟩ := hg4
            obtain ⟨_, ⟨_, rfl⟩ | ⟨_, c, ver, rfl, _, _, hc⟩⟩ := hsl
            · cases e
            · cases e; rw [q4] at hc; cases hc
          have b6 : h6.get B = some ⟨v2, .cells .own 0 [.int .i64 1, .int .i64 (P : Int), .str [], .int .i64 0, .int .i64 0, .int .i64 0, .int .i64 0, .int .u64 0, v]⟩ := by rw [ho6 B (by simp (disch := first | omega | (simp only [hN] <;> omega) | fail) only [go_sem, simprocAttr]; omega) hvB]; simp (disch := first | omega | (simp only [hN] <;> omega) | fail) only [go_sem, simprocAttr, b5l]
          have q6 : h6.get h.n = some ⟨0, .cells .own 0 zN⟩ := by rw [ho6 h.n (by simp (disch := first | omega | (simp only [hN] <;> omega) | fail) only [go_sem, simprocAttr]; omega) hvN]; simp (disch := first | omega | (simp only [hN] <;> omega) | fail) only [go_sem, simprocAttr, q5]
          have hf6 : ∀ b', b' < h.n → b' ≠ r → h6.get b' = h.get b' := fun b' hb1 hb2 => by
            rw [ho6 b' (by simp (disch := first | omega | (simp only [hN] <;> omega) | fail) only [go_sem, simprocAttr]; omega) (fun e => by have := hg4.blk e; omega)]
            simp (disch := first | omega | (simp only [hN] <;> omega) | fail) only [go_sem, simprocAttr, hf5.old, hf4']
          have hp6 : PInv h6 r E ts3 0 := hp5.le (by rw [hn6]; simp (disch := first | omega | (simp only [hN] <;> omega) | fail) only [go_sem, simprocAttr]; omega) fun b hb => by
            rw [ho6 b (by simp (disch := first | omega | (simp only [hN] <;> omega) | fail) only [go_sem, simprocAttr]; omega) (fun e => by have := hg4.blk e; omega)]
            simp (disch := first | omega | (simp only [hN] <;> omega) | fail) only [go_sem, simprocAttr]
          simp only [AHeap.alloc_n] at hn6
          simp only [ndC] at happ
          simp (disch := first | omega | (simp only [hN] <;> omega) | fail) only [go_sem, simprocAttr, k0, k2, k3, hk5.flat.1, hk5.flat.2, happ, b5l, b4l, b6, hg6.flat.1, hg6.flat.2]
          refine ⟨g, Nat.lt_succ_self _, v6, ns ++ [n], ts3, v2 + 1, hg6.keep (by simp (disch := first | omega | (simp only [hN] <;> omega) | fail) only [go_sem, simprocAttr]; omega) (fun b _ _ _ hb1 hb2 hb3 => ?_), hp6.le (by simp (disch := first | omega | (simp only [hN] <;> omega) | fail) only [go_sem, simprocAttr]; omega) (fun b hb => by simp (disch := first | omega | (simp only [hN] <;> omega) | fail) only [go_sem, simprocAttr]), rfl, q6, by omega, fun b hb1 hb2 => by simp (disch := first | omega | (simp only [hN] <;> omega) | fail) only [go_sem, simprocAttr, hf6], by rw [List.length_append]; simp only [List.length_cons, List.length_nil]; omega, by omega, hcl⟩
          have : b ≠ B := by rintro rfl; rw [b6] at hb3; cases hb3
          simp (disch := first | omega | (simp only [hN] <;> omega) | fail) only [go_sem, simprocAttr]
  · rintro ⟨t, df⟩ h3 ⟨v, ns, ts2, v2, hg, hp3, b3, q3, hn3, hf3, hlen, hcl, k0, k2, k3, hdf⟩
    simp only at k0 k2 k3 hdf
    subst hdf
    rw [hcl] at hQ
    have hlt4 := hp3.hi
    have b4 : h3.get B = some ⟨v2, .cells .own 0 [.int .i64 1, .int .i64 (P : Int), .str [], .int .i64 0, .int .i64 0, .int .i64 0, .int .i64 0, .int .u64 0, v]⟩ := b3
    have hg4 := hg.kids (by omega)
    simp (disch := first | omega | (simp only [hN] <;> omega) | fail) only [go_sem, simprocAttr, k0, k2, k3, b4, q3, hg.flat.1, hg.flat.2, zN]
    exact hQ _ v ⟨by first | omega | (simp only [hN]; omega), fun b hb hne => by (try simp only [hN] at hb hne); simp (disch := first | omega | (simp only [hN] <;> omega) | fail) only [go_sem, simprocAttr, hf3]⟩ (hp3.le (by simp (disch := first | omega | (simp only [hN] <;> omega) | fail) only [go_sem, simprocAttr]; omega) fun b hb => by simp (disch := first | omega | (simp only [hN] <;> omega) | fail) only [go_sem, simprocAttr]) (hg4.keep9 (Nat.le_refl _) (by simp (disch := first | omega | (simp only [hN] <;> omega) | fail) only [go_sem, simprocAttr]; omega) fun b _ _ _ hb1 hb2 hb3 => by
      have : b ≠ h.n := by rintro rfl; rw [q3] at hb3; cases hb3
      simp (disch := first | omega | (simp only [hN] <;> omega) | fail) only [go_sem, simprocAttr])
  · refine ⟨.nilSlice, [], ts, 1, GKids.nil, hpH, b0, q0, by omega, hfH, by simpa using hnf, hsm, hR, ?_⟩
    simp (disch := first | omega | (simp only [hN] <;> omega) | fail) only [go_sem, simprocAttr]
theorem read_tokS {fid : Nat} {p : Nat → Nat → PT} (hP : ∀ {E r : Nat} {ts : List Tok} {h : AHeap} {Q : QR}, PInv h r E ts 0 → ts.length ≤ 2000 → PQ h r E 0 Q (p E (ts.length + 1) 0 ts) → WF F fid [.ptr r 0] h Q) {s : Bs} (hlen : s.length < 2 ^ 62) {h : AHeap} (hG : GH h) {Q : QR} (hQ : ReadQ h Q (readP p s)) : WF F 37 [.str s, .func (.func fid) [] []] h Q := by
  refine WF.code F37 rfl ?_
  simp (disch := first | omega | (simp only [hN] <;> omega) | fail) only [go_sem, simprocAttr]
  refine tokens_spec ((hG.alloc _).alloc _) hlen ?_
  unfold readP at hQ
  cases hts : tokens s with
  | error x =>
    obtain ⟨e, q⟩ := x
    rw [hts] at hQ
    intro h1 hf1
    have hn1 := hf1.n; try simp only [hN] at hn1
    have d1 : decide (h.n + 1 = h.n) = false := decide_eq_false (by omega)
    simp (disch := first | omega | (simp only [hN] <;> omega) | fail) only [go_sem, simprocAttr, hf1.old, d1]
    refine hQ _ ?_
    exact ⟨by first | omega | (simp only [hN]; omega), fun b hb hne => by (try simp only [hN] at hb hne); simp (disch := first | omega | (simp only [hN] <;> omega) | fail) only [go_sem, simprocAttr, hf1.old]⟩
  | ok ts =>
    rw [hts] at hQ
    simp only at hQ
    intro h1 v1 hf1 hts1
    have hn1 := hf1.n; try simp only [hN] at hn1
    have hG1 : GH h1 := hf1.gh (by have := hG.n; simp (disch := first | omega | (simp only [hN] <;> omega) | fail) only [go_sem, simprocAttr]; omega) ((hG.alloc _).alloc _)
    simp (disch := first | omega | (simp only [hN] <;> omega) | fail) only [go_sem, simprocAttr, hf1.old, eqT_nil, hts1.flat.1, hts1.flat.2]
    have hf : ∀ b', b' < h.n → h1.get b' = h.get b' := fun b' hb' => by simp (disch := first | omega | (simp only [hN] <;> omega) | fail) only [go_sem, simprocAttr, hf1.old]
    have q4 : h1.get h.n = some ⟨0, .cells .own 0 zN⟩ := by simp (disch := first | omega | (simp only [hN] <;> omega) | fail) only [go_sem, simprocAttr, hf1.old]
    have ht0 : TokR h1 h1.n ts v1 := by
      obtain ⟨_, ⟨h0, rfl⟩ | ⟨hpos, b, ver, rfl, hb1, hb2, hb3⟩⟩ := hts1
      · exact .inl ⟨List.length_eq_zero_iff.1 h0, rfl⟩
      · exact .inr ⟨b, ver, 0, ts, by simp, hb2, hb3, rfl⟩
    generalize hH : ((h1.upd (h.n + 1) 1 (.cells .own 0 [.nilIface, .int .i64 0])).alloc (.cells .own 0 [v1, .int .i64 (s.length : Int), .int .i64 0])) = H
    have hHn : H.n = h1.n + 1 := by rw [← hH]; simp (disch := first | omega | (simp only [hN] <;> omega) | fail) only [go_sem, simprocAttr]
    have hH1 : ∀ b', b' < h1.n → b' ≠ h.n + 1 → H.get b' = h1.get b' := fun b' hb' hn' => by rw [← hH]; simp (disch := first | omega | (simp only [hN] <;> omega) | fail) only [go_sem, simprocAttr]
    have hH5 : H.get (h.n + 1) = some ⟨1, .cells .own 0 [.nilIface, .int .i64 0]⟩ := by rw [← hH]; simp (disch := first | omega | (simp only [hN] <;> omega) | fail) only [go_sem, simprocAttr]
    have hHr : H.get h1.n = some ⟨0, .cells .own 0 [v1, .int .i64 (s.length : Int), .int .i64 0]⟩ := by rw [← hH]; simp (disch := first | omega | (simp only [hN] <;> omega) | fail) only [go_sem, simprocAttr]
    have ht : TokR H h1.n ts v1 := by
      obtain ⟨_, ⟨h0, rfl⟩ | ⟨hpos, b, ver, rfl, hb1, hb2, hb3⟩⟩ := hts1
      · exact .inl ⟨List.length_eq_zero_iff.1 h0, rfl⟩
      · simp only [AHeap.alloc_n] at hb1
        exact .inr ⟨b, ver, 0, ts, by simp, hb2, by rw [hH1 _ hb2 (by omega)]; exact hb3, rfl⟩
    have hn0 := hG.n
    have hGH : GH H := (show Fr (h.n + 1) h1 H from ⟨by omega, fun b hb hne => hH1 b hb hne⟩).gh (by omega) hG1
    have hpH : PInv H h1.n s.length ts 0 := ⟨hGH, by omega, by omega, by omega, 0, v1, hHr, ht⟩
    have q4 : H.get h.n = some ⟨0, .cells .own 0 zN⟩ := by rw [hH1 _ (by omega) (by omega)]; exact q4
    have hf : ∀ b', b' < h.n → H.get b' = h.get b' := fun b' hb' => by rw [hH1 _ (by omega) (by omega)]; exact hf _ hb'
    generalize h1.n = r at *
    clear hH hH1 hHr ht ht0 hG1 hf1 hts1 hGH
    simp only [List.nil_append, List.append_nil]
    refine hP hpH (tokens_len hts) ?_
    cases hx : p s.length (ts.length + 1) 0 ts with
    | error x =>
      obtain ⟨e, q⟩ := x
      rw [hx] at hQ
      intro h2 hf2
      have hn2 := hf2.n; try simp only [hN] at hn2
      have q42 : h2.get h.n = some ⟨0, .cells .own 0 zN⟩ := by rw [hf2.old _ (by omega) (by omega)]; exact q4
      have q52 : h2.get (h.n + 1) = some ⟨1, .cells .own 0 [.nilIface, .int .i64 0]⟩ := by rw [hf2.old _ (by omega) (by omega)]; exact hH5
      simp (disch := first | omega | (simp only [hN] <;> omega) | fail) only [go_sem, simprocAttr, List.append_nil, List.nil_append]
      refine trecover_stop (n := .mk 0 0 [] 0 0 0 0 0 []) q42 q52 (by omega) (by omega) (by omega) ?_
      rintro h3 hn3 hf3 ⟨v3, q43⟩ ⟨v4, q53⟩
      simp (disch := first | omega | (simp only [hN] <;> omega) | fail) only [go_sem, simprocAttr, q43, q53]
      refine hQ _ ⟨by omega, fun b hb _ => ?_⟩
      rw [hf3 _ (by omega) (by omega) (by omega), hf2.old _ (by omega) (by omega)]
      exact hf _ hb
    | ok y =>
      obtain ⟨n, ts'⟩ := y
      rw [hx] at hQ
      intro h2 kv hf2 hp2 hk2
      have hn2 := hf2.n; try simp only [hN] at hn2
      have q42 : h2.get h.n = some ⟨0, .cells .own 0 zN⟩ := by rw [hf2.old _ (by omega) (by omega)]; exact q4
      have q52 : h2.get (h.n + 1) = some ⟨1, .cells .own 0 [.nilIface, .int .i64 0]⟩ := by rw [hf2.old _ (by omega) (by omega)]; exact hH5
      obtain ⟨vr, v, hr, htr⟩ := hp2.st
      have hlt2 := hp2.hi
      simp (disch := first | omega | (simp only [hN] <;> omega) | fail) only [go_sem, simprocAttr, q42, q52, hk2.flat.1, hk2.flat.2, hr, htr.len]
      cases ts' with
      | nil =>
        have c0 : decide ((0 : Int) > 0) = false := rfl
        simp (disch := first | omega | (simp only [hN] <;> omega) | fail) only [go_sem, simprocAttr, List.length_nil, Int.natCast_zero, c0, q42, q52, hk2.flat.1, hk2.flat.2]
        refine trecover_ret ?_
        simp (disch := first | omega | (simp only [hN] <;> omega) | fail) only [go_sem, simprocAttr, q42, q52, hk2.flat.1, hk2.flat.2]
        refine hQ _ kv ⟨by first | omega | (simp only [hN]; omega), fun b hb hne => by (try simp only [hN] at hb hne); simp (disch := first | omega | (simp only [hN] <;> omega) | fail) only [go_sem, simprocAttr, hf2.old, hf]⟩ (hk2.keep (by omega) (by simp (disch := first | omega | (simp only [hN] <;> omega) | fail) only [go_sem, simprocAttr]; exact Nat.le_refl _) fun b hb1 hb2 => by simp (disch := first | omega | (simp only [hN] <;> omega) | fail) only [go_sem, simprocAttr])
      | cons t ts' =>
        have c1 : decide (((ts'.length + 1 : Nat) : Int) > 0) = true := decide_eq_true (by omega)
        simp (disch := first | omega | (simp only [hN] <;> omega) | fail) only [go_sem, simprocAttr, c1]
        refine wrong_tok (hp2.loc (by omega) (by omega) q42) ?_
        intro h3 hf3
        have hn3 := hf3.n; try simp only [hN] at hn3
        have q43 : h3.get h.n = some ⟨1, .cells .own 0 (ndC n kv)⟩ := by simp (disch := first | omega | (simp only [hN] <;> omega) | fail) only [go_sem, simprocAttr, hf3.old]
        have q53 : h3.get (h.n + 1) = some ⟨1, .cells .own 0 [.nilIface, .int .i64 0]⟩ := by rw [hf3.old _ (by simp (disch := first | omega | (simp only [hN] <;> omega) | fail) only [go_sem, simprocAttr]; omega) (by simp (disch := first | omega | (simp only [hN] <;> omega) | fail) only [go_sem, simprocAttr]; omega), AHeap.get_upd, if_neg (by omega)]; exact q52
        simp (disch := first | omega | (simp only [hN] <;> omega) | fail) only [go_sem, simprocAttr, List.append_nil, List.nil_append]
        refine trecover_stop (n := n) q43 q53 (by omega) (by omega) (by omega) ?_
        rintro h4 hn4 hf4 ⟨v3, q44⟩ ⟨v4, q54⟩
        simp (disch := first | omega | (simp only [hN] <;> omega) | fail) only [go_sem, simprocAttr, q44, q54]
        refine hQ _ ⟨by omega, fun b hb _ => ?_⟩
        rw [hf4 _ (by omega) (by omega) (by omega), hf3.old _ (by simp (disch := first | omega | (simp only [hN] <;> omega) | fail) only [go_sem, simprocAttr]; omega) (by simp (disch := first | omega | (simp only [hN] <;> omega) | fail) only [go_sem, simprocAttr]; omega), AHeap.get_upd, if_neg (by omega), hf2.old _ (by omega) (by omega)]
        exact hf _ hb
theorem parse_read {s : Bs} (hlen : s.length < 2 ^ 62) {h : AHeap} (hG : GH h) {Q : QR} (hQ : ReadQ h Q (parseS s)) : WF F 30 [.str s] h Q := by
  refine WF.code F30 rfl ?_
  simp (disch := first | omega | (simp only [hN] <;> omega) | fail) only [go_sem, simprocAttr]
  refine read_tokS (p := progP) prog_tok hlen ((hG.alloc _).alloc _) ?_
  change ReadQ _ _ (parseS s)
  cases hx : parseS s with
  | error x =>
    obtain ⟨e, q⟩ := x
    rw [hx] at hQ
    intro h1 hf1
    have hn1 := hf1.n; try simp only [hN] at hn1
    simp (disch := first | omega | (simp only [hN] <;> omega) | fail) only [go_sem, simprocAttr, hf1.old]
    exact hQ _ ⟨by first | omega | (simp only [hN]; omega), fun b hb hne => by (try simp only [hN] at hb hne); simp (disch := first | omega | (simp only [hN] <;> omega) | fail) only [go_sem, simprocAttr, hf1.old]⟩
  | ok n =>
    rw [hx] at hQ
    intro h1 kv hf1 hk1
    have hn1 := hf1.n; try simp only [hN] at hn1
    simp (disch := first | omega | (simp only [hN] <;> omega) | fail) only [go_sem, simprocAttr, hf1.old, hk1.flat.1, hk1.flat.2]
    exact hQ _ kv ⟨by first | omega | (simp only [hN]; omega), fun b hb hne => by (try simp only [hN] at hb hne); simp (disch := first | omega | (simp only [hN] <;> omega) | fail) only [go_sem, simprocAttr, hf1.old]⟩ (hk1.keep (by simp (disch := first | omega | (simp only [hN] <;> omega) | fail) only [go_sem, simprocAttr]; omega) (by simp (disch := first | omega | (simp only [hN] <;> omega) | fail) only [go_sem, simprocAttr]; exact Nat.le_refl _) fun b hb1 hb2 => by simp only [AHeap.alloc_n] at hb1; simp (disch := first | omega | (simp only [hN] <;> omega) | fail) only [go_sem, simprocAttr])
end Go.Ev
/- The statements on trees: the chapter's example; how operators group. -/
namespace Go.Ev
open Go
set_option maxRecDepth 100000
set_option maxHeartbeats 4000000

theorem row_at {vs cs : List AV} {o n i : Nat} {x : AV} (h : row vs o n = some cs) (hx : cs[i]? = some x) : vs[o + i]? = some x := by
  have hl := row_len h
  have hi : i < cs.length := by
    rcases Nat.lt_or_ge i cs.length with g | g
    · exact g
    · rw [List.getElem?_eq_none g] at hx; cases hx
  obtain ⟨h1, rfl⟩ := row_inv h
  rw [List.getElem?_take, if_pos (by omega), List.getElem?_drop] at hx
  exact hx
theorem kids2 {lo : Nat} {h : AHeap} {x y : Nd} {kv : AV} (k : KidsR lo h [x, y] kv) : ∃ b ver o c md ex bs kx ky, kv = .slice b o 2 c ex ∧ lo ≤ b ∧ b < h.n ∧ h.get b = some ⟨ver, .cells md 9 bs⟩ ∧ row bs o 18 = some (ndC x kx ++ ndC y ky) := by
  cases k with
  | row h1 h0 h2 h3 h4 h5 h6 =>
    cases h6 with
    | cons k1 k2 =>
      cases k2 with
      | cons k3 k4 =>
        cases k4
        rw [List.append_nil] at h5
        exact ⟨_, _, _, _, _, _, _, _, _, rfl, h2, h3, h4, h5⟩
theorem alive06 {h : AHeap} (hG : GH h) {Q : QR} (hQ : ∀ h', Fr h.n h h' → Q (.ret (.bool true)) h') : WF F 18 [] h Q := by
  refine WF.code F18 rfl ?_
  simp (disch := first | omega | (simp only [hN] <;> omega) | fail) only [go_sem, simprocAttr]
  refine expr_read (by decide) hG ?_
  rw [alive6a]
  intro h1 kv hf1 hk1
  have hn1 := hf1.n; try simp only [hN] at hn1
  have hG1 := hf1.gh hG.n hG
  obtain ⟨b, ver, o, c, md, ex, bs, kx, ky, rfl, hb1, hb2, hb3, hb4⟩ := kids2 hk1
  have hb5 : bs[o + 9 + 2]? = some (.str [42]) := row_at (i := 11) hb4 rfl
  simp (disch := first | omega | (simp only [hN] <;> omega) | fail) only [go_sem, simprocAttr, Nd.kind, Nd.pos, Nd.name, Nd.typ, Nd.n, Nd.size, Nd.obj, Nd.bits]
  have hn0 := hG1.n
  generalize hH : AHeap.upd _ _ _ _ = H
  have hHn : H.n = h1.n + 2 := by rw [← hH]; simp (disch := first | omega | (simp only [hN] <;> omega) | fail) only [go_sem, simprocAttr]
  have hHo : ∀ b', b' < h1.n → H.get b' = h1.get b' := fun b' hb' => by rw [← hH]; simp (disch := first | omega | (simp only [hN] <;> omega) | fail) only [go_sem, simprocAttr]
  have hHb : H.get b = some ⟨ver, .cells md 9 bs⟩ := by rw [hHo _ hb2]; exact hb3
  have hH1 : H.get h1.n = some ⟨1, .cells .own 0 [.int .i64 31, .int .i64 0, .str [43], .int .i64 0, .int .i64 0, .int .i64 0, .int .i64 0, .int .u64 0, .slice b o 2 c ex]⟩ := by rw [← hH]; simp (disch := first | omega | (simp only [hN] <;> omega) | fail) only [go_sem, simprocAttr]
  have hH2 : H.get (h1.n + 1) = some ⟨1, .cells .own 0 [.nilIface, .int .i64 0]⟩ := by rw [← hH]; simp (disch := first | omega | (simp only [hN] <;> omega) | fail) only [go_sem, simprocAttr]
  have hGH : GH H := (show Fr h1.n h1 H from ⟨by omega, fun b hb _ => hHo b hb⟩).gh hG1.n hG1
  refine expr_read (by decide) hGH ?_
  rw [alive6b]
  intro h2 hf2
  have hn2 := hf2.n; try simp only [hN] at hn2
  have hG2 := hf2.gh hGH.n hGH
  have q1 := (hf2.all (b := h1.n) (by omega)).trans hH1
  have q2 := (hf2.all (b := h1.n + 1) (by omega)).trans hH2
  have q3 := (hf2.all (b := b) (by omega)).trans hHb
  have c1 : decide ((1 : Int) < ((2 : Nat) : Int)) = true := by decide
  simp (disch := first | omega | (simp only [hN] <;> omega) | fail) only [go_sem, simprocAttr, eqT_nil, q1, q2, q3, c1, hb5]
  have hlt : h1.n + 2 ≤ h2.n := by omega
  generalize hK : AHeap.upd _ _ _ _ = K
  have hKn : K.n = h2.n + 2 := by rw [← hK]; simp (disch := first | omega | (simp only [hN] <;> omega) | fail) only [go_sem, simprocAttr]
  have hKo : ∀ b', b' < h2.n → K.get b' = h2.get b' := fun b' hb' => by rw [← hK]; simp (disch := first | omega | (simp only [hN] <;> omega) | fail) only [go_sem, simprocAttr]
  have hK2 : K.get (h2.n + 1) = some ⟨1, .cells .own 0 [errAV 2, .int .i64 3]⟩ := by rw [← hK]; simp (disch := first | omega | (simp only [hN] <;> omega) | fail) only [go_sem, simprocAttr]
  have hGK : GH K := (show Fr h2.n h2 K from ⟨by omega, fun b hb _ => hKo b hb⟩).gh hG2.n hG2
  refine num_spec (e := 2) hGK (by decide) (by decide) ?_
  intro h3 hf3
  have hn3 := hf3.n; try simp only [hN] at hn3
  have q4 := (hf3.all (b := h2.n + 1) (by omega)).trans hK2
  simp (disch := first | omega | (simp only [hN] <;> omega) | fail) only [go_sem, simprocAttr, q4]
  refine hQ _ ⟨by omega, fun b hb _ => ?_⟩
  rw [hf3.all (by omega), hKo _ (by omega), hf2.all (by omega), hHo _ (by omega), hf1.all hb]
end Go.Ev
/- Trees: how many nodes they have, how deep they are. -/
namespace Go.Ev
open Go
set_option maxRecDepth 100000
set_option maxHeartbeats 4000000

theorem RowsS.get {lo : Nat} {h : AHeap} : {ns : List Nd} → {css : List AV} → RowsR lo h ns css → ∀ {i : Nat} (hi : i < ns.length), ∃ kv, row css (i * 9) 9 = some (ndC ns[i] kv) ∧ KidsR lo h ns[i].kids kv
  | _, _, .nil, i, hi => absurd hi (Nat.not_lt_zero _)
  | _, _, .cons (n := n) (ns := ns) (kv := kv) (css := css) k r, 0, _ => by
    refine ⟨kv, ?_, k⟩
    have : ((ndC n kv ++ css).drop 0).take 9 = ndC n kv := by simp [ndC]
    unfold row
    rw [Nat.zero_mul, ble_nat, decide_eq_true (by simp [ndC])]
    simp [ndC]
  | _, _, .cons (n := n) (ns := ns) (kv := kv) (css := css) k r, i + 1, hi => by
    obtain ⟨kv', h1, h2⟩ := r.get (i := i) (by simpa using hi)
    refine ⟨kv', ?_, h2⟩
    have e : (i + 1) * 9 = i * 9 + 1 + 1 + 1 + 1 + 1 + 1 + 1 + 1 + 1 := by omega
    rw [e]
    simp only [ndC, List.cons_append, List.nil_append, row_tl]
    exact h1

theorem KidsR.len {lo : Nat} {h : AHeap} {ns : List Nd} {v : AV} (k : KidsR lo h ns v) : lenA v = some (ns.length : Int) := by
  cases k <;> rfl
end Go.Ev
/- TreePlaces: the walk. -/
namespace Go.Ev
open Go
set_option maxRecDepth 100000
set_option maxHeartbeats 4000000

theorem keyOk_int {p : Int} : keyOk (.one .int) (.int .i64 p) = true := by simp [keyOk, eqT, eqK]
theorem plc_pos {P : Int → Prop} {n : Nd} (h : plc P n) : P n.pos ∧ plcL P n.pos n.kids := by
  cases n
  simp only [plc] at h
  exact h
theorem placed_spec : ∀ (s : Nat) {nd : Nd}, nd.count ≤ s → ∀ {P : Int → Prop} {es : List (AV × AV)} {mb ver lo : Nat} {h : AHeap} {kv : AV} {Q : QR}, plc P nd → h.get mb = some ⟨ver, .amap es⟩ → mb < h.n → (∀ p, P p → findA (.one .int) (.int .i64 p) es = some (some (.bool true))) → KidsR lo h nd.kids kv → (∀ h', Fr h.n h h' → Q (.ret (.bool true)) h') → WF F 31 [.agg (ndC nd kv), .map mb] h Q := by
  intro s
  induction s with
  | zero => intro nd h0; cases nd; simp [Nd.count] at h0
  | succ s ih =>
    intro nd hs P es mb ver lo h kv Q hp hm hmn hfind hk hQ
    have hcnt : nd.count = 1 + cntL nd.kids := by cases nd; rfl
    obtain ⟨hp1, hp2⟩ := plc_pos hp
    generalize nd.kids = ks at hk hcnt hp2
    refine WF.code F31 rfl ?_
    have hf1 := hfind _ hp1
    have hkey := keyOk_int (p := nd.pos)
    simp (disch := first | omega | (simp only [hN] <;> omega) | fail) only [go_sem, simprocAttr, hk.flat.1, hk.flat.2, hk.len, hm, hf1, hkey, ndC]
    refine wp_loop (fun n a h' => ∃ (i : Nat) (last : Int), n = ks.length - i ∧ i ≤ ks.length ∧ Fr h.n h h' ∧ plcL P last (ks.drop i) ∧ a.tm.get 1 = some (.map mb) ∧ a.tm.get 5 = some (.int .i64 last) ∧ a.tm.get 16 = some kv ∧ a.tm.get 17 = some (.int .i64 (ks.length : Int)) ∧ a.tm.get 18 = some (.int .i64 (i : Int)) ∧ a.df = []) ?_ ks.length ?_
    · rintro n ⟨t, df⟩ h2 ⟨i, last, hn, hi, hf2, hpl, k1, k5, k16, k17, k18, hdf⟩
      simp only at k1 k5 k16 k17 k18 hdf
      subst hdf
      have hn2 := hf2.n; try simp only [hN] at hn2
      simp (disch := first | omega | (simp only [hN] <;> omega) | fail) only [go_sem, simprocAttr, k17, k18]
      (first | refine kA (fun hlt => ?_) (fun hlt => ?_) | refine kB (fun hlt => ?_) (fun hlt => ?_) | refine kC (fun hlt => ?_) (fun hlt => ?_) | refine kD (fun hlt => ?_) (fun hlt => ?_) | refine kE (fun hlt => ?_) (fun hlt => ?_) | refine kF (fun hlt => ?_) (fun hlt => ?_))
      · have hil : i < ks.length := (by have := of_decide_eq_true hlt; omega)
        have hstep := cntL_take hil
        have hle := cntL_le (ns := ks) (i + 1)
        rw [List.drop_eq_getElem_cons hil] at hpl
        simp only [plcL] at hpl
        obtain ⟨hl1, hl2, hl3⟩ := hpl
        cases hk with
        | nil => simp at hil
        | emp => simp at hil
        | row g1 g0 g2 g3 g4 gr g5 =>
          rename_i b ver' o c md ex bs css
          obtain ⟨kv', hr, hk'⟩ := g5.get hil
          rw [← row_sub (o := o) gr (by omega)] at hr
          have g4' : h2.get b = some ⟨ver', .cells md 9 bs⟩ := by rw [hf2.all g3]; exact g4
          have hm2 : h2.get mb = some ⟨ver, .amap es⟩ := by rw [hf2.all hmn]; exact hm
          generalize ks[i] = m at hr hk' hstep hl1 hl2 hl3
          have d0 : decide (m.pos < last) = false := decide_eq_false (by omega)
          simp only [ndC] at hr
          simp (disch := first | omega | (simp only [hN] <;> omega) | fail) only [go_sem, simprocAttr, k1, k5, k16, k17, k18, Int.toNat_natCast, g4', hr, hk'.flat.1, hk'.flat.2, d0]
          refine ih (nd := m) (lo := lo) (kv := kv') (by omega) hl2 (mb := mb) (ver := ver) (by simp (disch := first | omega | (simp only [hN] <;> omega) | fail) only [go_sem, simprocAttr, hm2]) (by simp (disch := first | omega | (simp only [hN] <;> omega) | fail) only [go_sem, simprocAttr]; omega) hfind (hk'.keep (Nat.le_refl _) (by simp (disch := first | omega | (simp only [hN] <;> omega) | fail) only [go_sem, simprocAttr]; omega) fun b' hb1 hb2 => ?_) ?_
          · simp (disch := first | omega | (simp only [hN] <;> omega) | fail) only [go_sem, simprocAttr, hf2.old]
          · intro h3 hf3
            have hn3 := hf3.n; try simp only [hN] at hn3
            simp (disch := first | omega | (simp only [hN] <;> omega) | fail) only [go_sem, simprocAttr, k1, k5, k16, k17, k18, d0, hf3.old]
            exact ⟨_, hn ▸ Nat.sub_lt_sub_left hil (Nat.lt_succ_self i), i + 1, m.pos, rfl, hil, ⟨by first | omega | (simp only [hN]; omega), fun b hb hne => by (try simp only [hN] at hb hne); simp (disch := first | omega | (simp only [hN] <;> omega) | fail) only [go_sem, simprocAttr, hf3.old, hf2.old]⟩, hl3, rfl, rfl⟩
      · simp (disch := first | omega | (simp only [hN] <;> omega) | fail) only [go_sem, simprocAttr]
        exact hQ _ hf2
    · exact ⟨0, nd.pos, rfl, Nat.zero_le _, ⟨by first | omega | (simp only [hN]; omega), fun b hb hne => by (try simp only [hN] at hb hne); simp (disch := first | omega | (simp only [hN] <;> omega) | fail) only [go_sem, simprocAttr]⟩, hp2, by simp (disch := first | omega | (simp only [hN] <;> omega) | fail) only [go_sem, simprocAttr], by (first | (simp (disch := first | omega | (simp only [hN] <;> omega) | fail) only [go_sem, simprocAttr]; done) | (simp (disch := first | omega | (simp only [hN] <;> omega) | fail) only [go_sem, simprocAttr]; rfl)), by simp (disch := first | omega | (simp only [hN] <;> omega) | fail) only [go_sem, simprocAttr], by simp (disch := first | omega | (simp only [hN] <;> omega) | fail) only [go_sem, simprocAttr], by (first | (simp (disch := first | omega | (simp only [hN] <;> omega) | fail) only [go_sem, simprocAttr]; done) | (simp (disch := first | omega | (simp only [hN] <;> omega) | fail) only [go_sem, simprocAttr]; rfl)), by simp (disch := first | omega | (simp only [hN] <;> omega) | fail) only [go_sem, simprocAttr]⟩
end Go.Ev
/- TreePlaces: the law. -/
namespace Go.Ev
open Go
set_option maxRecDepth 100000
set_option maxHeartbeats 4000000

/-- A map of ints to true. -/
def KM (es : List (AV × AV)) : Prop := ∀ x ∈ es, ∃ q : Int, x = (.int .i64 q, .bool true)
def hasK (es : List (AV × AV)) (p : Int) : Prop := findA (.one .int) (.int .i64 p) es = some (some (.bool true))
theorem setA_int {p : Int} : ∀ {es : List (AV × AV)}, KM es → ∃ es', setA (.one .int) (.int .i64 p) (.bool true) es = some es' ∧ KM es' ∧ hasK es' p ∧ ∀ q, hasK es q → hasK es' q
  | [], _ => by
    refine ⟨[(.int .i64 p, .bool true)], rfl, ?_, ?_, ?_⟩
    · intro x hx; rcases List.mem_singleton.1 hx with rfl; exact ⟨p, rfl⟩
    · simp [hasK, findA, eqT, eqK]
    · intro q hq; simp [hasK, findA] at hq
  | x :: es, hk => by
    obtain ⟨q, rfl⟩ := hk x (by simp)
    by_cases e : p = q
    · subst e
      refine ⟨(.int .i64 p, .bool true) :: es, by simp [setA, eqT, eqK], hk, by simp [hasK, findA, eqT, eqK], fun q hq => hq⟩
    · obtain ⟨es', h1, h2, h3, h4⟩ := setA_int (p := p) (es := es) (fun x hx => hk x (by simp [hx]))
      refine ⟨(.int .i64 q, .bool true) :: es', by simp [setA, eqT, eqK, beq_eq_false_iff_ne.2 e, h1], ?_, ?_, ?_⟩
      · intro x hx
        rcases List.mem_cons.1 hx with rfl | hx
        · exact ⟨q, rfl⟩
        · exact h2 x hx
      · simpa [hasK, findA, eqT, eqK, beq_eq_false_iff_ne.2 e] using h3
      · intro r hr
        unfold hasK at hr ⊢
        by_cases er : r = q
        · subst er; simp [findA, eqT, eqK]
        · simp only [findA, eqT, eqK, decide_true, cond_true, beq_eq_false_iff_ne.2 er] at hr ⊢
          exact h4 r hr
theorem places_law {s : Bs} {h : AHeap} (hG : GH h) (hlen : s.length < 2 ^ 61) : WF F 13 [.str s] h (fun r _ => r = .ret (.bool true)) := by
  refine WF.code F13 rfl ?_
  simp (disch := first | omega | (simp only [hN] <;> omega) | fail) only [go_sem, simprocAttr]
  refine alive06 hG ?_
  intro h1 hf1
  have hn1 := hf1.n; try simp only [hN] at hn1
  have hG1 := hf1.gh hG.n hG
  simp (disch := first | omega | (simp only [hN] <;> omega) | fail) only [go_sem, simprocAttr]
  refine parse_read (s := s) (by omega) hG1 ?_
  cases hx : parseS s with
  | error x =>
    obtain ⟨e, p⟩ := x
    intro h2 hf2
    have hn2 := hf2.n; try simp only [hN] at hn2
    obtain ⟨he, hpl⟩ := parse_errp hx
    have c0 : decide ((p : Int) ≥ 0) = true := decide_eq_true (by omega)
    have c1 : decide ((p : Int) ≤ (s.length : Int)) = true := decide_eq_true (by omega)
    have z0 : lenA .nilSlice = some 0 := rfl
    have n0 : eqT (.one .iface) (errAV e) .nilIface = some false := rfl
    simp (disch := first | omega | (simp only [hN] <;> omega) | fail) only [go_sem, simprocAttr, n0, c0, c1, z0, zN]
  | ok n =>
    obtain ⟨ts, hts, hpl⟩ := parse_places hx
    intro h2 kv hf2 hk2
    have hn2 := hf2.n; try simp only [hN] at hn2
    have hG2 := hf2.gh hG1.n hG1
    simp (disch := first | omega | (simp only [hN] <;> omega) | fail) only [go_sem, simprocAttr, hk2.flat.1, hk2.flat.2]
    generalize hH : AHeap.upd _ _ _ _ = H
    have hHn : H.n = h2.n + 2 := by rw [← hH]; simp (disch := first | omega | (simp only [hN] <;> omega) | fail) only [go_sem, simprocAttr]
    have hH0 : H.get h2.n = some ⟨1, .cells .own 0 (ndC n kv)⟩ := by rw [← hH]; simp (disch := first | omega | (simp only [hN] <;> omega) | fail) only [go_sem, simprocAttr, ndC]
    have hH1 : H.get (h2.n + 1) = some ⟨1, .cells .own 0 [.nilIface, .int .i64 0]⟩ := by rw [← hH]; simp (disch := first | omega | (simp only [hN] <;> omega) | fail) only [go_sem, simprocAttr]
    have hHG : GH H := (show Fr h2.n h2 H from ⟨by omega, fun b hb _ => by rw [← hH]; simp (disch := first | omega | (simp only [hN] <;> omega) | fail) only [go_sem, simprocAttr]⟩).gh hG2.n hG2
    have hk : KidsR 0 H n.kids kv := hk2.keep (Nat.zero_le _) (by omega) fun b hb1 hb2 => by rw [← hH]; simp (disch := first | omega | (simp only [hN] <;> omega) | fail) only [go_sem, simprocAttr]
    clear hH
    refine tokens_spec hHG (by omega) ?_
    rw [hts]
    intro h3 v3 hf3 hts3
    have hn3 := hf3.n; try simp only [hN] at hn3
    have r0 := (hf3.all (b := h2.n) (by omega)).trans hH0
    have r1 := (hf3.all (b := h2.n + 1) (by omega)).trans hH1
    have hk3 : KidsR 0 h3 n.kids kv := hk.keep (Nat.zero_le _) (by omega) fun b hb1 hb2 => by simp (disch := first | omega | (simp only [hN] <;> omega) | fail) only [go_sem, simprocAttr, hf3.old]
    have hlen3 := hts3.len
    have htl := tokens_len hts
    have hkey := keyOk_int (p := (s.length : Int))
    obtain ⟨es1, hset, hkm, hhas, _⟩ := setA_int (p := (s.length : Int)) (es := []) (by intro x hx; cases hx)
    simp (disch := first | omega | (simp only [hN] <;> omega) | fail) only [go_sem, simprocAttr, r1, hts3.flat.1, hts3.flat.2, eqT_nil, hlen3, hkey, hset]
    generalize hH : AHeap.upd (AHeap.alloc _ _) h3.n _ _ = H4
    have hHn4 : H4.n = h3.n + 1 := by rw [← hH]; simp (disch := first | omega | (simp only [hN] <;> omega) | fail) only [go_sem, simprocAttr]
    have m4 : H4.get h3.n = some ⟨1, .amap es1⟩ := by rw [← hH]; simp (disch := first | omega | (simp only [hN] <;> omega) | fail) only [go_sem, simprocAttr]
    have r4 : H4.get h2.n = some ⟨1, .cells .own 0 (ndC n kv)⟩ := by rw [← hH]; simp (disch := first | omega | (simp only [hN] <;> omega) | fail) only [go_sem, simprocAttr, r0]
    have ht4 : TokSl H.n H4 v3 ts := by
      obtain ⟨hl, h0 | ⟨hp, b, ver, e, b1, b2, b3⟩⟩ := hts3
      · exact ⟨hl, .inl h0⟩
      · exact ⟨hl, .inr ⟨hp, b, ver, e, b1, by omega, by rw [← hH]; simp (disch := first | omega | (simp only [hN] <;> omega) | fail) only [go_sem, simprocAttr, b3]⟩⟩
    have hk4 : KidsR 0 H4 n.kids kv := hk3.keep9 (Nat.zero_le _) (by omega) fun b _ _ _ _ hb1 hb2 => by
      have : b ≠ h2.n + 1 := by rintro rfl; rw [r1] at hb2; cases hb2
      rw [← hH]; simp (disch := first | omega | (simp only [hN] <;> omega) | fail) only [go_sem, simprocAttr]
    clear hH hts3 hk3 r0 r1 hset hkey
    refine wp_loop (fun k a h' => ∃ (i ver : Nat) (es : List (AV × AV)), k = ts.length - i ∧ i ≤ ts.length ∧ h'.get h3.n = some ⟨ver, .amap es⟩ ∧ H4.n ≤ h'.n ∧ (∀ b, b < H4.n → b ≠ h3.n → h'.get b = H4.get b) ∧ KM es ∧ hasK es (s.length : Int) ∧ (∀ t ∈ ts.take i, hasK es (t.pos : Int)) ∧ a.tm.get 3 = some (.ptr h2.n 0) ∧ a.tm.get 6 = some (.map h3.n) ∧ a.tm.get 52 = some v3 ∧ a.tm.get 53 = some (.int .i64 (ts.length : Int)) ∧ a.tm.get 54 = some (.int .i64 (i : Int)) ∧ a.df = []) ?_ ts.length ?_
    · rintro k ⟨t, df⟩ h5 ⟨i, ver, es, hn, hi, m5, hn5, hf5, hkm5, hhs, hht, k3, k6, k52, k53, k54, hdf⟩
      simp only at k3 k6 k52 k53 k54 hdf
      subst hdf
      simp (disch := first | omega | (simp only [hN] <;> omega) | fail) only [go_sem, simprocAttr, k53, k54]
      (first | refine kA (fun hlt => ?_) (fun hlt => ?_) | refine kB (fun hlt => ?_) (fun hlt => ?_) | refine kC (fun hlt => ?_) (fun hlt => ?_) | refine kD (fun hlt => ?_) (fun hlt => ?_) | refine kE (fun hlt => ?_) (fun hlt => ?_) | refine kF (fun hlt => ?_) (fun hlt => ?_))
      · have hil : i < ts.length := (by have := of_decide_eq_true hlt; omega)
        obtain ⟨hl, ⟨h0, _⟩ | ⟨hp, b, vb, rfl, b1, b2, b3⟩⟩ := ht4
        · omega
        have hbn : b ≠ h3.n := by rintro rfl; rw [m4] at b3; cases b3
        have b5 := (hf5 b b2 hbn).trans b3
        have hget : ts[i]? = some ts[i] := List.getElem?_eq_getElem hil
        have hr : row (toksAV ts) (i * 5) 5 = some (tokAV ts[i]).cells := flat_row (f := fun t => (tokAV t).cells) (fun _ => rfl) hget
        have htk : ∀ es', (∀ q, hasK es q → hasK es' q) → hasK es' (ts[i].pos : Int) → ∀ t ∈ ts.take (i + 1), hasK es' (t.pos : Int) := fun es' h1 h2 t ht => by
          rw [List.take_succ_eq_append_getElem hil] at ht
          rcases List.mem_append.1 ht with ht | ht
          · exact h1 _ (hht t ht)
          · rw [List.mem_singleton.1 ht]; exact h2
        generalize ts[i] = u at *
        obtain ⟨es', hset, hkm', hhas', hmono⟩ := setA_int (p := (u.pos : Int)) hkm5
        have hkey := keyOk_int (p := (u.pos : Int))
        have hr' : row (toksAV ts) (i * 5) 5 = some [.int .i64 (u.kind : Int), .str u.text, .int .i64 (u.n : Int), .int .u64 (u.bits : Int), .int .i64 (u.pos : Int)] := hr
        simp (disch := first | omega | (simp only [hN] <;> omega) | fail) only [go_sem, simprocAttr, k3, k6, k52, k53, k54, Int.toNat_natCast, Nat.zero_add, b5, hr', hkey, m5, hset]
        refine ⟨_, hn ▸ Nat.sub_lt_sub_left hil (Nat.lt_succ_self i), i + 1, _, es', rfl, hil, rfl, by omega, fun b hb hne => by simp (disch := first | omega | (simp only [hN] <;> omega) | fail) only [go_sem, simprocAttr, hf5], hkm', hmono _ hhs, htk es' hmono hhas', rfl⟩
      · have hil : i = ts.length := by have := of_decide_eq_false hlt; omega
        subst hil
        rw [List.take_length] at hht
        have r5 := (hf5 h2.n (by omega) (by omega)).trans r4
        have hk5 : KidsR 0 h5 n.kids kv := hk4.keep9 (Nat.zero_le _) hn5 fun b _ _ _ _ hb1 hb2 => hf5 b hb1 (by rintro rfl; rw [m4] at hb2; cases hb2)
        simp (disch := first | omega | (simp only [hN] <;> omega) | fail) only [go_sem, simprocAttr, k3, k6, r5, hk5.flat.1, hk5.flat.2, ndC]
        refine placed_spec n.count (Nat.le_refl _) hpl m5 (by omega) ?_ hk5 ?_
        · rintro p (rfl | ⟨t, ht, rfl⟩)
          · exact hhs
          · exact hht t ht
        · intro h6 hf6
          simp (disch := first | omega | (simp only [hN] <;> omega) | fail) only [go_sem, simprocAttr]
    · refine ⟨0, 1, es1, rfl, Nat.zero_le _, m4, Nat.le_refl _, fun _ _ _ => rfl, hkm, hhas, by simp, ?_⟩
      simp (disch := first | omega | (simp only [hN] <;> omega) | fail) only [go_sem, simprocAttr]
end Go.Ev
