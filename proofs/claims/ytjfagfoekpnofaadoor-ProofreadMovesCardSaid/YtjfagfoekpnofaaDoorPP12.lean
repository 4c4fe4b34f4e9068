/- Proofread: the stacks of a code. -/
import Derived.Test.YtjfagfoekpnofaaDoorPP10
import Derived.Test.YtjfagfoekpnofaaDoorPuA
set_option linter.all false
set_option linter.unusedVariables false
set_option linter.unusedSimpArgs false
namespace Go.Ev
open Go
set_option maxRecDepth 100000
set_option maxHeartbeats 4000000

theorem wrec_ret {o b : Nat} {h : AHeap} {Q : AHeap → Prop} (hQ : Q h) : WDef F 16 [.ptr o 0, .ptr b 0] .ret h Q := by
  refine WDef.code F16 rfl ?_
  simp (disch := first | omega | (simp only [hN] <;> omega) | fail) only [go_sem, simprocAttr, eqT, eqK]
  exact hQ
theorem wrec_stop {o b v1 v2 : Nat} {h : AHeap} {x1 x2 : AV} {Q : AHeap → Prop} (hG : h.get 0 = some ⟨0, .cells .ro 0 [errAV 9]⟩) (hg : 17 ≤ o) (ho : h.get o = some ⟨v1, .cells .own 0 [x1]⟩) (hb : h.get b = some ⟨v2, .cells .own 0 [x2]⟩) (hob : o ≠ b) (hon : o < h.n) (hbn : b < h.n)
    (hQ : ∀ h', h.n ≤ h'.n → (∀ c, c < h.n → c ≠ o → c ≠ b → h'.get c = h.get c) → (∃ v, h'.get o = some ⟨v, .cells .own 0 [.nilSlice]⟩) → (∃ v, h'.get b = some ⟨v, .cells .own 0 [errAV 9]⟩) → Q h') :
    WDef F 16 [.ptr o 0, .ptr b 0] (.pan (.iface 50 (.agg []))) h Q := by
  refine WDef.code F16 rfl ?_
  simp (disch := first | omega | (simp only [hN] <;> omega) | fail) only [go_sem, simprocAttr, eqT, eqK, Nat.beq_refl, ho, hb, hG]
  refine hQ _ (by simp only [hN]; omega) (fun c hc h1 h2 => ?_) ⟨v1 + 1, ?_⟩ ⟨v2 + 1, ?_⟩
  · simp (disch := first | omega | (simp only [hN] <;> omega) | fail) only [go_sem, simprocAttr]
  · simp (disch := first | omega | (simp only [hN] <;> omega) | fail) only [go_sem, simprocAttr]
  · simp (disch := first | omega | (simp only [hN] <;> omega) | fail) only [go_sem, simprocAttr]
theorem repl_one (x : AV) : ∀ n, repl [x] n = List.replicate n x
  | 0 => rfl
  | n + 1 => by rw [repl, repl_one x n, List.replicate_succ]; rfl
theorem ensOk_all {nb : Int} : ∀ {l : List En} {last : Int} {first : Bool}, ensOk nb last first l = true → ∀ f ∈ l, last < f.start ∧ f.start < nb ∧ 0 ≤ f.params ∧ f.params ≤ f.locals.length
  | [], _, _, _, f, hf => by cases hf
  | g :: l, last, first, h, f, hf => by
    simp only [ensOk, Bool.and_eq_true] at h
    obtain ⟨h1, h2⟩ := h
    have hg : last < g.start ∧ g.start < nb ∧ 0 ≤ g.params ∧ g.params ≤ g.locals.length := by
      simp [enOk, inside] at h1
      omega
    rcases List.mem_cons.1 hf with rfl | hf
    · exact hg
    · have := ensOk_all h2 f hf
      omega
theorem form_facts {c : Cd} (h : formB c = true) : (∀ x ∈ c.body, insB c x = true) ∧ c.body.length ≤ 8192 ∧ ∀ f ∈ c.funcs, 0 ≤ f.start ∧ f.start < c.body.length ∧ 0 ≤ f.params ∧ f.params ≤ f.locals.length := by
  simp only [formB, shapeB, Bool.and_eq_true] at h
  obtain ⟨⟨⟨⟨h1, _⟩, h3⟩, _⟩, h5⟩ := h
  refine ⟨fun x hx => ?_, ?_, fun f hf => ?_⟩
  · have := List.all_eq_true.1 h5 x hx
    simp only [insOk, Bool.and_eq_true] at this
    exact this.2
  · simp [headOk] at h1
    omega
  · have := ensOk_all h3 f hf
    omega
theorem CmV.updR {h : AHeap} {lo bS bM r v : Nat} {k : Kn} {o : AObj} (c : CmV h lo bS bM k) (h1 : r ≠ bS) (h2 : r ≠ bM) (h3 : r < lo) : CmV (h.upd r v o) lo bS bM k := by
  obtain ⟨q1, q2, q3, q4, ⟨vS, svs, q5, q6, q7⟩, vM, q8⟩ := c
  refine ⟨q1, q2, q3, q4, ⟨vS, svs, by rw [AHeap.get_upd, if_neg (by omega)]; exact q5, q6, fun j x w e1 e2 => ?_⟩, vM, by rw [AHeap.get_upd, if_neg (by omega)]; exact q8⟩
  obtain ⟨w1, w2⟩ := q7 j x w e1 e2
  exact ⟨lov_keep w1 w2 (Nat.le_refl _) fun b hb hbn => by rw [AHeap.get_upd, if_neg (by omega)], w2⟩
theorem NewV.intsC {lo : Nat} {h : AHeap} {l : List Int} {u : AV} (n : NewV lo h l u) (hs : l.length < 2 ^ 61) : IntsC h l u := by
  refine ⟨n.ints hs, ?_⟩
  rcases n with ⟨rfl, rfl | ⟨b, ver, rfl, _⟩⟩ | ⟨b, ver, rfl, h0, _, h2, h3⟩
  · exact .inl rfl
  · exact .inr ⟨b, 0, 0, true, rfl, Nat.le_refl _, .inl rfl⟩
  · exact .inr ⟨b, 0, _, false, rfl, Nat.le_refl _, .inr ⟨h0, ver, .own, _, h3, h2⟩⟩
theorem NewV.lov {lo lo' : Nat} {h : AHeap} {l : List Int} {u : AV} (n : NewV lo h l u) (hl : lo' ≤ lo) : LoV lo' u := by
  intro b' o' n' c' ex' e
  rcases n with ⟨rfl, rfl | ⟨b, ver, rfl, h1, _⟩⟩ | ⟨b, ver, rfl, h0, h1, h2, h3⟩
  · cases e
  · cases e; omega
  · cases e; omega
theorem slv_of {h : AHeap} {b ver n c : Nat} {ex : Bool} {svs : List AV} (hn : n < 2 ^ 61) (hl : svs.length = n) (hb : b < h.n) (hg : h.get b = some ⟨ver, .cells .own 1 svs⟩) : SlV h 1 n svs (.slice b 0 n c ex) := by
  by_cases h0 : n = 0
  · subst h0
    rw [List.length_eq_zero_iff.1 hl]; exact .emp
  · exact .row (by omega) hn hb hg (row_all (by omega))
theorem left_le {k : Kn} : left k ≤ k.length := List.countP_le_length
/-- Lists of ints in memory. -/
def StksV (h : AHeap) (ls : List (List Int)) (v : AV) : Prop := ∃ svs, SlV h 1 ls.length svs v ∧ ∀ (i : Nat) (l : List Int) (w : AV), ls[i]? = some l → svs[i]? = some w → IntsV h l w
theorem stacks_spec {h : AHeap} {c : Cd} {pv chv fv bv : AV} (hG : GH h) (hC : CdV h c pv chv fv bv) {Q : QR} (hQ : match stacksP c with
    | none => ∀ h', Fr h.n h h' → Q (.ret (.tuple [.nilSlice, errAV 9])) h'
    | some ls => ∀ h' v, Fr h.n h h' → StksV h' ls v → Q (.ret (.tuple [v, .nilIface])) h') : WF F 8 [.agg (cdC c pv chv fv bv)] h Q := by
  refine WF.code F8 rfl ?_
  obtain ⟨f1, f2, f3, f4⟩ := hC.flats
  obtain ⟨l1, l2, l3, l4⟩ := hC.lens
  have hGn := hG.n
  simp (disch := first | omega | (simp only [hN] <;> omega) | fail) only [go_sem, simprocAttr, cdC, f1.1, f1.2, f2.1, f2.2, f3.1, f3.2, f4.1, f4.2]
  have hF0 : Fr h.n h (((h.alloc (.cells .own 0 (cdC c pv chv fv bv))).alloc (.cells .own 0 [.nilSlice])).alloc (.cells .own 0 [.nilIface])) := (((Fr.refl _ _).alloc _).alloc _).alloc _
  have hG1 := ((hG.alloc (.cells .own 0 (cdC c pv chv fv bv))).alloc (.cells .own 0 [.nilSlice])).alloc (.cells .own 0 [.nilIface])
  simp only [cdC] at hF0 hG1
  generalize hHH : AHeap.alloc (AHeap.alloc (AHeap.alloc h _) _) _ = H at hF0 hG1 ⊢
  have hHn : H.n = h.n + 3 := by rw [← hHH]; simp (disch := first | omega | (simp only [hN] <;> omega) | fail) only [go_sem, simprocAttr]
  have b0 : H.get h.n = some ⟨0, .cells .own 0 (cdC c pv chv fv bv)⟩ := by rw [← hHH]; simp (disch := first | omega | (simp only [hN] <;> omega) | fail) only [go_sem, simprocAttr, cdC]
  have b1 : H.get (h.n + 1) = some ⟨0, .cells .own 0 [.nilSlice]⟩ := by rw [← hHH]; simp (disch := first | omega | (simp only [hN] <;> omega) | fail) only [go_sem, simprocAttr]
  have b2 : H.get (h.n + 1 + 1) = some ⟨0, .cells .own 0 [.nilIface]⟩ := by rw [← hHH]; simp (disch := first | omega | (simp only [hN] <;> omega) | fail) only [go_sem, simprocAttr]
  clear hHH
  refine check_spec hG1 (hC.fr hF0) ?_
  intro h1 hf1
  have hn1 := hf1.n; try simp only [hN] at hn1
  have c0 := (hf1.all (b := h.n) (by omega)).trans b0
  have c1 := (hf1.all (b := h.n + 1) (by omega)).trans b1
  have c2 := (hf1.all (b := h.n + 1 + 1) (by omega)).trans b2
  unfold stacksP at hQ
  cases hfm : formB c
  · rw [hfm] at hQ
    simp only [Bool.false_eq_true, if_false] at hQ ⊢
    simp (disch := first | omega | (simp only [hN] <;> omega) | fail) only [go_sem, simprocAttr, c0, c1, c2]
    refine hQ _ ?_
    have hF1 : Fr h.n h h1 := hF0.trans (hf1.any (by omega))
    exact ⟨by first | omega | (simp only [hN]; omega), fun b hb hne => by (try simp only [hN] at hb hne); simp (disch := first | omega | (simp only [hN] <;> omega) | fail) only [go_sem, simprocAttr, hF1.old]⟩
  · rw [hfm] at hQ
    simp only [if_true] at hQ ⊢
    simp only [cdC] at c0
    obtain ⟨hI, hsm, hFs⟩ := form_facts hfm
    have r1 : decide ((c.body.length : Int) ≤ (room : Int)) = true := decide_eq_true (by simp only [room]; omega)
    have r2 : decide ((c.body.length : Int) * 24 ≤ (room : Int)) = true := decide_eq_true (by simp only [room]; omega)
    have r3 : decide ((c.body.length : Int) * 1 ≤ (room : Int)) = true := decide_eq_true (by simp only [room]; omega)
    have d1 : decide (h.n = h1.n) = false := decide_eq_false (by omega)
    have d2 : decide (h.n = h1.n + 1) = false := decide_eq_false (by omega)
    have d3 : decide (h.n = h1.n + 1 + 1) = false := decide_eq_false (by omega)
    simp (disch := first | omega | (simp only [hN] <;> omega) | fail) only [go_sem, simprocAttr, c0, c1, c2, eqT_nil, f1.1, f1.2, f2.1, f2.2, f3.1, f3.2, f4.1, f4.2, l4, l3, r1, r2, r3, d1, d2, d3]
    have hF1 : Fr h.n h h1 := hF0.trans (hf1.any (by omega))
    have hG2 := hf1.gh hG1.n hG1
    have g9 := hG2.gl 0 (by decide)
    generalize hHH : AHeap.alloc (AHeap.alloc (AHeap.alloc h1 _) _) _ = H2
    have hH2 : H2.n = h1.n + 3 := by rw [← hHH]; simp (disch := first | omega | (simp only [hN] <;> omega) | fail) only [go_sem, simprocAttr]
    have e0 : H2.get h.n = some ⟨0, .cells .own 0 (cdC c pv chv fv bv)⟩ := by rw [← hHH]; simp (disch := first | omega | (simp only [hN] <;> omega) | fail) only [go_sem, simprocAttr, c0, cdC]
    have e1 : H2.get (h.n + 1) = some ⟨0, .cells .own 0 [.nilSlice]⟩ := by rw [← hHH]; simp (disch := first | omega | (simp only [hN] <;> omega) | fail) only [go_sem, simprocAttr, c1]
    have e2 : H2.get (h.n + 1 + 1) = some ⟨0, .cells .own 0 [.nilIface]⟩ := by rw [← hHH]; simp (disch := first | omega | (simp only [hN] <;> omega) | fail) only [go_sem, simprocAttr, c2]
    have eS : H2.get h1.n = some ⟨0, .cells .own 1 (List.replicate c.body.length .nilSlice)⟩ := by rw [← hHH, ← repl_one]; simp (disch := first | omega | (simp only [hN] <;> omega) | fail) only [go_sem, simprocAttr]
    have eM : H2.get (h1.n + 1) = some ⟨0, .cells .own 1 (List.replicate c.body.length (.bool false))⟩ := by rw [← hHH, ← repl_one]; simp (disch := first | omega | (simp only [hN] <;> omega) | fail) only [go_sem, simprocAttr]
    have eR : H2.get (h1.n + 1 + 1) = some ⟨0, .cells .own 0 (cdC c pv chv fv bv ++ (enC ⟨0, 0, []⟩ .nilSlice ++ [.int .i64 0, .int .i64 0, .slice h1.n 0 c.body.length c.body.length true, .slice (h1.n + 1) 0 c.body.length c.body.length true]))⟩ := by
      rw [← hHH]
      simp only [cdC, enC, List.cons_append, List.nil_append]
      simp (disch := first | omega | (simp only [hN] <;> omega) | fail) only [go_sem, simprocAttr]
    have eF : Fr h.n h H2 := by
      rw [← hHH]
      exact ((hF1.alloc _).alloc _).alloc _
    clear hHH
    have hR0 : RdC h H2 (h1.n + 1 + 1) c ⟨0, 0, []⟩ 0 0 h1.n (h1.n + 1) := ⟨by omega, by omega, by omega, by omega, by omega, by omega, eF, 0, pv, chv, fv, bv, .nilSlice, eR, hC, .nil, .inl rfl⟩
    have hC0 : CmV H2 (h1.n + 3) h1.n (h1.n + 1) (List.replicate c.body.length none) := by
      refine ⟨by omega, by omega, by omega, by omega, ⟨0, _, eS, by simp, fun i x v hx hv => ?_⟩, 0, ?_⟩
      · rw [List.getElem?_replicate] at hx hv
        split at hx
        · rename_i hi
          rw [if_pos hi] at hv
          cases hx; cases hv
          exact ⟨⟨.nil, .inl rfl⟩, LoV.nil⟩
        · cases hx
      · rw [eM, List.map_replicate]; rfl
    have hBn : h.n + 3 ≤ h1.n := by omega
    clear c0 c1 c2 d1 d2 d3 eS eM eR hF0 hF1 hf1 hG1 b0 b1 b2 hn1
    have hR : ∃ R, funcsP c c.funcs (List.replicate c.body.length none) = R := ⟨_, rfl⟩
    obtain ⟨R, hR⟩ := hR
    rw [hR] at hQ
    have hpan : ∀ (H3 : AHeap), Fr h.n h H3 → h.n + 3 ≤ H3.n → H3.get (h.n + 1) = some ⟨0, .cells .own 0 [.nilSlice]⟩ → H3.get (h.n + 1 + 1) = some ⟨0, .cells .own 0 [.nilIface]⟩ → R = none → ∀ (K : AHeap → Prop), (∀ h', (∃ v, h'.get (h.n + 1) = some ⟨v, .cells .own 0 [.nilSlice]⟩) → (∃ v, h'.get (h.n + 1 + 1) = some ⟨v, .cells .own 0 [errAV 9]⟩) → Q (.ret (.tuple [.nilSlice, errAV 9])) h' → K h') → WDef F 16 [.ptr (h.n + 1) 0, .ptr (h.n + 1 + 1) 0] (.pan (.iface 50 (.agg []))) H3 K := by
      intro H3 hF3 hn3 a1 a2 hRn K hK
      subst hRn
      have hG3 := hF3.gh hGn hG
      refine wrec_stop (hG3.gl 0 (by decide)) (by omega) a1 a2 (by omega) (by omega) (by omega) ?_
      intro h' q1 q2 q3 q4
      refine hK h' q3 q4 (hQ h' ⟨by omega, fun b hb _ => ?_⟩)
      rw [q2 b (by omega) (by omega) (by omega), hF3.all hb]
    generalize h1.n = B at *
    refine wp_loopx 0 (fun m a h' => ∃ (i : Nat) (k : Kn) (fn : En) (st en : Int), m = c.funcs.length - i ∧ i ≤ c.funcs.length ∧ RdC h h' (B + 1 + 1) c fn st en B (B + 1) ∧ CmV h' (B + 3) B (B + 1) k ∧ k.length = c.body.length ∧ h'.get h.n = some ⟨0, .cells .own 0 (cdC c pv chv fv bv)⟩ ∧ h'.get (h.n + 1) = some ⟨0, .cells .own 0 [.nilSlice]⟩ ∧ h'.get (h.n + 1 + 1) = some ⟨0, .cells .own 0 [.nilIface]⟩ ∧ funcsP c (c.funcs.drop i) k = R ∧ a.tm.get 1 = some (.ptr h.n 0) ∧ a.tm.get 2 = some (.ptr (h.n + 1) 0) ∧ a.tm.get 3 = some (.ptr (h.n + 1 + 1) 0) ∧ a.tm.get 5 = some (.ptr (B + 1 + 1) 0) ∧ a.tm.get 27 = some fv ∧ a.tm.get 28 = some (.int .i64 (c.funcs.length : Int)) ∧ a.tm.get 29 = some (.int .i64 (i : Int)) ∧ a.df = [(16, [.ptr (h.n + 1) 0, .ptr (h.n + 1 + 1) 0])])
      (fun a h' => ∃ (k : Kn) (fn : En) (st en : Int), RdC h h' (B + 1 + 1) c fn st en B (B + 1) ∧ CmV h' (B + 3) B (B + 1) k ∧ k.length = c.body.length ∧ h'.get h.n = some ⟨0, .cells .own 0 (cdC c pv chv fv bv)⟩ ∧ h'.get (h.n + 1) = some ⟨0, .cells .own 0 [.nilSlice]⟩ ∧ h'.get (h.n + 1 + 1) = some ⟨0, .cells .own 0 [.nilIface]⟩ ∧ R = some k ∧ a.tm.get 1 = some (.ptr h.n 0) ∧ a.tm.get 2 = some (.ptr (h.n + 1) 0) ∧ a.tm.get 3 = some (.ptr (h.n + 1 + 1) 0) ∧ a.tm.get 5 = some (.ptr (B + 1 + 1) 0) ∧ a.df = [(16, [.ptr (h.n + 1) 0, .ptr (h.n + 1 + 1) 0])]) ?_ ?_ c.funcs.length ?_
    · rintro m ⟨t, df⟩ h2 ⟨i, k, fn, st, en, hm, hi, hRd, hCm, hkl, a0, a1, a2, hfp, k1, k2, k3, k5, k27, k28, k29, hdf⟩
      simp only at k1 k2 k3 k5 k27 k28 k29 hdf
      subst hdf
      by_cases hil : i < c.funcs.length
      · obtain ⟨css, hE, hfs⟩ := hC.funcs
        obtain ⟨b', o, cp, ex, ver', md, bs, rfl, hb, hg, hrw⟩ := hfs.inv (by omega)
        obtain ⟨lv, hrow, hlv⟩ := hE.at hil
        have hrow' : ∀ j (hj : j < c.funcs.length), ∃ lv, row bs (o + j * 3) 3 = some (enC c.funcs[j] lv) := by
          intro j hj
          obtain ⟨lv, h1, _⟩ := hE.at hj
          exact ⟨lv, by rw [row_sub hrw (by omega)]; exact h1⟩
        rw [← row_sub hrw (by omega)] at hrow
        have hff := hFs _ (List.getElem_mem hil)
        have hfsm := hfs.small
        rw [List.drop_eq_getElem_cons hil] at hfp
        rw [funcsP_cons] at hfp
        obtain ⟨o1, o2, o3, n1, n2, hi', hfr, ver, pv', chv', fv', bv', lv', hr, hcd, hl'⟩ := hRd
        have hn2 := hfr.n
        have hlo := hCm.hlo
        have hg2 := (hfr.all hb).trans hg
        have i1 : ((i : Int) < (c.funcs.length : Int)) = True := by simp [hil]
        have i2 : decide ((i : Int) < (c.funcs.length : Int)) = true := decide_eq_true (by omega)
        have iN : ((i : Int) + 1) = ((i + 1 : Nat) : Int) := by omega
        have hlf := hlv.1.flat
        generalize c.funcs[i] = f at *
        simp only [cdC, enC, List.cons_append, List.nil_append] at hr a0 hrow
        have d1 : decide (B + 1 + 1 = h2.n) = false := decide_eq_false (by omega)
        have d2 : decide (h2.n = B + 1 + 1) = false := decide_eq_false (by omega)
        have d3 : decide (h.n = B + 1 + 1) = false := decide_eq_false (by omega)
        simp (disch := first | omega | (simp only [hN] <;> omega) | fail) only [go_sem, simprocAttr, k1, k2, k3, k5, k27, k28, k29, i1, i2, hg2, hrow, hr, a0, l4, l3, Int.toNat_natCast, hlf.1, hlf.2, d1, d2, d3, iN]
        generalize hHH : AHeap.upd (AHeap.upd (AHeap.upd (AHeap.upd (AHeap.alloc h2 _) _ _ _) _ _ _) _ _ _) _ _ _ = H3
        have hHn : H3.n = h2.n + 1 := by rw [← hHH]; simp (disch := first | omega | (simp only [hN] <;> omega) | fail) only [go_sem, simprocAttr]
        have ho : ∀ b, b < h2.n → b ≠ B + 1 + 1 → H3.get b = h2.get b := fun b h1 h2 => by rw [← hHH]; simp (disch := first | omega | (simp only [hN] <;> omega) | fail) only [go_sem, simprocAttr]
        have hT : H3.get h2.n = some ⟨1, .cells .own 0 (enC f lv)⟩ := by rw [← hHH]; simp (disch := first | omega | (simp only [hN] <;> omega) | fail) only [go_sem, simprocAttr, enC]
        have hRR : H3.get (B + 1 + 1) = some ⟨ver + 1 + 1 + 1, .cells .own 0 (cdC c pv' chv' fv' bv' ++ (enC f lv ++ [.int .i64 f.start, .int .i64 (c.body.length : Int), .slice B 0 c.body.length c.body.length true, .slice (B + 1) 0 c.body.length c.body.length true]))⟩ := by
          rw [← hHH]
          simp only [cdC, enC, List.cons_append, List.nil_append]
          simp (disch := first | omega | (simp only [hN] <;> omega) | fail) only [go_sem, simprocAttr]
        have hC3 : CmV H3 (B + 3) B (B + 1) k := by
          obtain ⟨q1, q2, q3, q4, ⟨vS, svs, q5, q6, q7⟩, vM, q8⟩ := hCm
          refine ⟨by omega, q2, q3, q4, ⟨vS, svs, (ho _ (by omega) (by omega)).trans q5, q6, fun j x w e1 e2 => ?_⟩, vM, (ho _ (by omega) (by omega)).trans q8⟩
          obtain ⟨w1, w2⟩ := q7 j x w e1 e2
          exact ⟨lov_keep w1 w2 (by omega) fun b hb hbn => ho b hbn (by omega), w2⟩
        have hF3 : Fr h.n h H3 := ⟨by omega, fun b hb _ => by rw [ho b (by omega) (by omega)]; exact hfr.all hb⟩
        have hRd3 : RdC h H3 (B + 1 + 1) c f f.start c.body.length B (B + 1) := ⟨o1, o2, o3, n1, n2, by omega, hF3, _, pv', chv', fv', bv', lv, hRR, hcd, hlv⟩
        have a0' := (ho h.n (by omega) (by omega)).trans a0
        have a1' := (ho (h.n + 1) (by omega) (by omega)).trans a1
        have a2' := (ho (h.n + 1 + 1) (by omega) (by omega)).trans a2
        have hg3 := (ho b' (by omega) (by omega)).trans hg2
        clear hHH hr ho hg2 a0 a1 a2 hCm
        refine cond_cut (fun a h' => ∃ en, en = nextSt c (c.funcs.drop (i + 1)) ∧ en ≤ c.body.length ∧ RdC h h' (B + 1 + 1) c f f.start en B (B + 1) ∧ CmV h' (B + 3) B (B + 1) k ∧ h'.get h.n = some ⟨0, .cells .own 0 (cdC c pv chv (.slice b' o c.funcs.length cp ex) bv)⟩ ∧ h'.get (h.n + 1) = some ⟨0, .cells .own 0 [.nilSlice]⟩ ∧ h'.get (h.n + 1 + 1) = some ⟨0, .cells .own 0 [.nilIface]⟩ ∧ h'.get h2.n = some ⟨1, .cells .own 0 (enC f lv)⟩ ∧ h2.n < h'.n ∧ a.tm.get 1 = some (.ptr h.n 0) ∧ a.tm.get 2 = some (.ptr (h.n + 1) 0) ∧ a.tm.get 3 = some (.ptr (h.n + 1 + 1) 0) ∧ a.tm.get 5 = some (.ptr (B + 1 + 1) 0) ∧ a.tm.get 7 = some (.ptr h2.n 0) ∧ a.tm.get 27 = some (.slice b' o c.funcs.length cp ex) ∧ a.tm.get 28 = some (.int .i64 (c.funcs.length : Int)) ∧ a.tm.get 29 = some (.int .i64 (i : Int)) ∧ a.df = [(16, [.ptr (h.n + 1) 0, .ptr (h.n + 1 + 1) 0])]) ?_ ?_
        · by_cases hin : i + 1 < c.funcs.length
          · have g1 : decide (((i + 1 : Nat) : Int) < (c.funcs.length : Int)) = true := decide_eq_true (by omega)
            have i3 : (((i + 1 : Nat) : Int) < (c.funcs.length : Int)) = True := by simp; omega
            have hns : nextSt c (c.funcs.drop (i + 1)) = c.funcs[i + 1].start := by rw [List.drop_eq_getElem_cons hin]; rfl
            obtain ⟨lv2, hrow2⟩ := hrow' (i + 1) hin
            have hst : bs[o + (i + 1) * 3]? = some (.int .i64 c.funcs[i + 1].start) := by
              have := row_get hrow2 (i := 0) (by decide)
              rwa [Nat.add_zero] at this
            have hff2 := hFs _ (List.getElem_mem hin)
            rw [hns]
            generalize c.funcs[i + 1].start = sn at *
            simp only [cdC, enC, List.cons_append, List.nil_append] at hRR a0'
            simp (disch := first | omega | (simp only [hN] <;> omega) | fail) only [go_sem, simprocAttr, g1, k1, k2, k3, k5, k27, k28, k29, a0', iN, hg3, hst, i3, hRR, Int.toNat_natCast, Nat.add_zero]
            refine ⟨sn, rfl, by omega, ⟨o1, o2, o3, n1, n2, by rw [AHeap.upd_n]; omega, hF3.updNew (by omega) _ _, _, pv', chv', fv', bv', lv, by rw [AHeap.get_upd, if_pos rfl]; rfl, hcd, hlv⟩, hC3.updR (by omega) (by omega) (by omega), rfl, a1', a2', hT, by omega⟩
          · have g1 : decide (((i + 1 : Nat) : Int) < (c.funcs.length : Int)) = false := decide_eq_false (by omega)
            have hns : nextSt c (c.funcs.drop (i + 1)) = c.body.length := by rw [List.drop_of_length_le (by omega)]; rfl
            rw [hns]
            simp (disch := first | omega | (simp only [hN] <;> omega) | fail) only [go_sem, simprocAttr, g1, k1, k2, k3, k5, k27, k28, k29]
            exact ⟨_, rfl, Int.le_refl _, hRd3, hC3, a0', a1', a2', hT, by omega⟩
        · clear k1 k2 k3 k5 k27 k28 k29 hRR hRd3 hC3 a0' a1' a2' hg3 hT hrow'
          rintro ⟨t, df⟩ H4 ⟨en, hen, henl, hRd4, hC4, a0, a1, a2, hT, hlt4, k1, k2, k3, k5, k7, k27, k28, k29, hdf⟩
          simp only at k1 k2 k3 k5 k7 k27 k28 k29 hdf
          subst hdf
          simp only [enC] at hT
          simp (disch := first | omega | (simp only [hN] <;> omega) | fail) only [go_sem, simprocAttr, k1, k2, k3, k5, k7, k27, k28, k29, hT]
          have hle := left_le (k := k)
          refine come_spec hI (fun f hf => (hFs f hf).2.2) hff.1 henl hsm (c.body.length + 1) hRd4 hC4 (show IntsC H4 [] .nilSlice from ⟨.nil, .inl rfl⟩) LoV.nil hkl (by omega) ?_
          rw [← hen] at hfp
          cases hc : comeP c f f.start en (c.body.length + 1) f.start [] k with
          | none =>
            rw [hc] at hfp
            intro h5 hf5
            have hF5 : Fr h.n h h5 := (hRd4.fr3 hf5).fr
            have q1 := (hf5.2 (h.n + 1) (by omega) (by omega) (by omega)).trans a1
            have q2 := (hf5.2 (h.n + 1 + 1) (by omega) (by omega) (by omega)).trans a2
            have q3 := hf5.1
            simp (disch := first | omega | (simp only [hN] <;> omega) | fail) only [go_sem, simprocAttr, k1, k2, k3, k5, List.nil_append]
            refine hpan h5 hF5 (by omega) q1 q2 hfp.symm _ ?_
            rintro h' ⟨v1, w1⟩ ⟨v2, w2⟩ hq
            simp (disch := first | omega | (simp only [hN] <;> omega) | fail) only [go_sem, simprocAttr, k1, k2, k3, w1, w2]
            exact hq
          | some k' =>
            rw [hc] at hfp
            simp only [Option.bind_some] at hfp
            have hlc := comeP_left _ (by rw [hkl]; exact henl) hff.1 hc
            intro h5 hf5 hC5
            have q0 := (hf5.2 h.n (by omega) (by omega) (by omega)).trans a0
            have q1 := (hf5.2 (h.n + 1) (by omega) (by omega) (by omega)).trans a1
            have q2 := (hf5.2 (h.n + 1 + 1) (by omega) (by omega) (by omega)).trans a2
            simp (disch := first | omega | (simp only [hN] <;> omega) | fail) only [go_sem, simprocAttr, k1, k2, k3, k5, k7, k27, k28, k29, iN]
            refine ⟨c.funcs.length - (i + 1), by omega, i + 1, k', f, f.start, en, rfl, hil, hRd4.fr3 hf5, hC5, hlc.1.trans hkl, q0, q1, q2, hfp, ?_⟩
            simp (disch := first | omega | (simp only [hN] <;> omega) | fail) only [go_sem, simprocAttr]
      · have i2 : decide ((i : Int) < (c.funcs.length : Int)) = false := decide_eq_false (by omega)
        simp (disch := first | omega | (simp only [hN] <;> omega) | fail) only [go_sem, simprocAttr, k1, k2, k3, k5, k27, k28, k29, i2]
        refine ⟨k, fn, st, en, hRd, hCm, hkl, a0, a1, a2, ?_⟩
        rw [← hfp, List.drop_of_length_le (by omega)]
        rfl
    · rintro ⟨t, df⟩ h2 ⟨k, fn, st, en, hRd, hCm, hkl, a0, a1, a2, hRk, k1, k2, k3, k5, hdf⟩
      simp only at k1 k2 k3 k5 hdf
      subst hdf
      subst hRk
      have hsk := funcsP_small none_small hR
      simp only [Option.map_some] at hQ
      obtain ⟨o1, o2, o3, n1, n2, hi', hfr, ver, pv', chv', fv', bv', lv', hr, hcd, hl'⟩ := hRd
      have hfn := hfr.n
      simp only [cdC, enC, List.cons_append, List.nil_append] at hr
      obtain ⟨q1, q2, q3, q4, qS, vM, q8⟩ := hCm
      clear hpan hR hR0 hC0 hcd hl' q8
      simp (disch := first | omega | (simp only [hN] <;> omega) | fail) only [go_sem, simprocAttr, k1, k2, k3, k5, hr]
      refine wp_loopx 2 (fun m a h' => ∃ i : Nat, m = c.body.length - i ∧ i ≤ c.body.length ∧ a.tm.get 2 = some (.ptr (h.n + 1) 0) ∧ a.tm.get 3 = some (.ptr (h.n + 1 + 1) 0) ∧ a.tm.get 5 = some (.ptr (B + 1 + 1) 0) ∧ a.tm.get 74 = some (.int .i64 (c.body.length : Int)) ∧ a.tm.get 75 = some (.int .i64 (i : Int)) ∧ a.df = [(16, [.ptr (h.n + 1) 0, .ptr (h.n + 1 + 1) 0])] ∧ (∃ ver, h'.get (B + 1 + 1) = some ⟨ver, .cells .own 0 [pv', .int .i64 c.mutexes, .int .i64 c.atomics, chv', fv', .int .i64 c.main, bv', .int .i64 fn.start, .int .i64 fn.params, lv', .int .i64 st, .int .i64 en, .slice B 0 c.body.length c.body.length true, .slice (B + 1) 0 c.body.length c.body.length true]⟩) ∧ Fr h.n h h' ∧ B + 3 ≤ h'.n ∧ h'.get (h.n + 1) = some ⟨0, .cells .own 0 [.nilSlice]⟩ ∧ h'.get (h.n + 1 + 1) = some ⟨0, .cells .own 0 [.nilIface]⟩ ∧ ∃ ver svs, h'.get B = some ⟨ver, .cells .own 1 svs⟩ ∧ svs.length = k.length ∧ ∀ (j : Nat) (x : Option (List Int)) (v : AV), k[j]? = some x → svs[j]? = some v → IntsC h' (x.getD []) v ∧ LoV (B + 3) v)
        (fun a h' => a.tm.get 2 = some (.ptr (h.n + 1) 0) ∧ a.tm.get 3 = some (.ptr (h.n + 1 + 1) 0) ∧ a.tm.get 5 = some (.ptr (B + 1 + 1) 0) ∧ a.df = [(16, [.ptr (h.n + 1) 0, .ptr (h.n + 1 + 1) 0])] ∧ (∃ ver, h'.get (B + 1 + 1) = some ⟨ver, .cells .own 0 [pv', .int .i64 c.mutexes, .int .i64 c.atomics, chv', fv', .int .i64 c.main, bv', .int .i64 fn.start, .int .i64 fn.params, lv', .int .i64 st, .int .i64 en, .slice B 0 c.body.length c.body.length true, .slice (B + 1) 0 c.body.length c.body.length true]⟩) ∧ Fr h.n h h' ∧ B + 3 ≤ h'.n ∧ h'.get (h.n + 1) = some ⟨0, .cells .own 0 [.nilSlice]⟩ ∧ h'.get (h.n + 1 + 1) = some ⟨0, .cells .own 0 [.nilIface]⟩ ∧ ∃ ver svs, h'.get B = some ⟨ver, .cells .own 1 svs⟩ ∧ svs.length = k.length ∧ ∀ (j : Nat) (x : Option (List Int)) (v : AV), k[j]? = some x → svs[j]? = some v → IntsC h' (x.getD []) v ∧ LoV (B + 3) v) ?_ ?_ c.body.length ?_
      · clear k1 k2 k3 k5 hr a0 a1 a2 qS hfr hfn hi' q1
        rintro m ⟨t, df⟩ h3 ⟨i, hm, hi, k2, k3, k5, k74, k75, hdf, ⟨vR, hr⟩, hfr, hB3, a1, a2, vS, svs, q5, q6, q7⟩
        simp only at k2 k3 k5 k74 k75 hdf
        subst hdf
        have hfn := hfr.n
        by_cases hil : i < c.body.length
        · have i1 : ((i : Int) < (c.body.length : Int)) = True := by simp [hil]
          have i2 : decide ((i : Int) < (c.body.length : Int)) = true := decide_eq_true (by omega)
          have iN : ((i : Int) + 1) = ((i + 1 : Nat) : Int) := by omega
          have hki : k[i]? = some k[i] := List.getElem?_eq_getElem (by omega)
          have hsi : svs[i]? = some svs[i] := List.getElem?_eq_getElem (by omega)
          obtain ⟨w1, w2⟩ := q7 i _ _ hki hsi
          have hln : (k[i].getD []).length < 2 ^ 36 := by
            cases hx : k[i] with
            | none => simp
            | some l =>
              have := hsk i l (by rw [hki, hx])
              simp only [Option.getD_some]
              omega
          have wf := w1.1.flat
          have q9 : i < svs.length := by omega
          generalize svs[i] = sv at *
          generalize k[i] = ki at *
          simp (disch := first | omega | (simp only [hN] <;> omega) | fail) only [go_sem, simprocAttr, k2, k3, k5, k74, k75, i1, i2, hr, q5, hsi, Int.toNat_natCast, Nat.mul_one, wf.1, wf.2]
          refine clone_spec' w1.1 hln ?_
          intro h4 u hf4 hu
          have hn4 := hf4.n; try simp only [hN] at hn4
          have hr4 := (hf4.all (b := B + 1 + 1) (by omega)).trans hr
          have q54 := (hf4.all (b := B) (by omega)).trans q5
          have huC := hu.intsC (Nat.lt_trans hln (by decide))
          have huL := hu.lov (lo' := B + 3) (by omega)
          have uf := huC.1.flat
          have l1 : lay svs i [u] = some (svs.set i u) := lay_one q9
          simp (disch := first | omega | (simp only [hN] <;> omega) | fail) only [go_sem, simprocAttr, k2, k3, k5, k74, k75, i1, hr, q5, hr4, q54, l1, Int.toNat_natCast, Nat.mul_one, uf.1, uf.2, iN]
          have a1' := (hf4.all (b := h.n + 1) (by omega)).trans a1
          have a2' := (hf4.all (b := h.n + 1 + 1) (by omega)).trans a2
          have hkeep : ∀ {l : List Int} {w : AV}, IntsC h4 l w → LoV (B + 3) w → IntsC (h4.upd B (vS + 1) (.cells .own 1 (svs.set i u))) l w := fun a b => lov_keep a b (Nat.le_refl _) fun x hx _ => by rw [AHeap.get_upd, if_neg (by omega)]
          refine ⟨c.body.length - (i + 1), by omega, i + 1, rfl, hil, rfl, ⟨vR, rfl⟩, (hfr.trans (hf4.any (by omega))).updNew (by omega) _ _, by omega, a1', a2', vS + 1, svs.set i u, rfl, by simp [q6], ?_⟩
          intro j x w e1 e2
          rw [List.getElem?_set] at e2
          by_cases e : i = j
          · subst e
            rw [if_pos rfl, if_pos q9] at e2
            rw [hki] at e1
            cases e1; cases e2
            exact ⟨hkeep huC huL, huL⟩
          · rw [if_neg e] at e2
            obtain ⟨y1, y2⟩ := q7 j x w e1 e2
            exact ⟨hkeep (y1.fr hf4) y2, y2⟩
        · have i2 : decide ((i : Int) < (c.body.length : Int)) = false := decide_eq_false (by omega)
          simp (disch := first | omega | (simp only [hN] <;> omega) | fail) only [go_sem, simprocAttr, k2, k3, k5, k74, k75, i2]
          exact ⟨⟨vR, hr⟩, hfr, hB3, a1, a2, vS, svs, q5, q6, q7⟩
      · clear k1 k2 k3 k5 hr a0 a1 a2 qS hfr hfn hi' q1
        rintro ⟨t, df⟩ h3 ⟨k2, k3, k5, hdf, ⟨vR, hr⟩, hfr, hB3, a1, a2, vS, svs, q5, q6, q7⟩
        simp only at k2 k3 k5 hdf
        subst hdf
        have hfn := hfr.n
        simp (disch := first | omega | (simp only [hN] <;> omega) | fail) only [go_sem, simprocAttr, k2, k3, k5, hr, a1, a2]
        refine wrec_ret ?_
        simp (disch := first | omega | (simp only [hN] <;> omega) | fail) only [go_sem, simprocAttr, k2, k3, k5]
        have hml : (k.map fun x => x.getD []).length = c.body.length := by rw [List.length_map]; exact hkl
        refine hQ _ _ ?_ ⟨svs, by rw [hml]; exact slv_of (ver := vS) (by omega) (by rw [q6]; exact hkl) (by simp (disch := first | omega | (simp only [hN] <;> omega) | fail) only [go_sem, simprocAttr]; omega) (by simp (disch := first | omega | (simp only [hN] <;> omega) | fail) only [go_sem, simprocAttr, q5]), fun i l w e1 e2 => ?_⟩
        · exact (hfr.updNew (by omega) _ _).updNew (by omega) _ _
        · rw [List.getElem?_map] at e1
          obtain ⟨x, e3, e4⟩ := Option.map_eq_some_iff.1 e1
          subst e4
          obtain ⟨y1, y2⟩ := q7 i x w e3 e2
          exact (lov_keep y1 y2 (by simp (disch := first | omega | (simp only [hN] <;> omega) | fail) only [go_sem, simprocAttr]; exact Nat.le_refl _) fun b hb hbn => by simp (disch := first | omega | (simp only [hN] <;> omega) | fail) only [go_sem, simprocAttr]).1
      · refine ⟨0, rfl, Nat.zero_le _, ?_⟩
        simp (disch := first | omega | (simp only [hN] <;> omega) | fail) only [go_sem, simprocAttr, k2, k3, k5]
        exact ⟨⟨ver, hr⟩, hfr, q1, a1, a2, qS⟩
    · simp (disch := first | omega | (simp only [hN] <;> omega) | fail) only [go_sem, simprocAttr, l3]
      exact ⟨0, _, _, _, _, rfl, Nat.zero_le _, hR0, hC0, by simp, e0, e1, e2, hR, rfl, rfl⟩
end Go.Ev
/- Proofread: Check, Deep; the chapter's examples. -/
namespace Go.Ev
open Go
set_option maxRecDepth 100000
set_option maxHeartbeats 4000000

theorem pcheck_spec {h : AHeap} {c : Cd} {pv chv fv bv : AV} (hG : GH h) (hC : CdV h c pv chv fv bv) {Q : QR} (hQ : ∀ h', Fr h.n h h' → Q (.ret (if (stacksP c).isSome then .nilIface else errAV 9)) h') : WF F 11 [.agg (cdC c pv chv fv bv)] h Q := by
  refine WF.code F11 rfl ?_
  obtain ⟨f1, f2, f3, f4⟩ := hC.flats
  simp (disch := first | omega | (simp only [hN] <;> omega) | fail) only [go_sem, simprocAttr, cdC, f1.1, f1.2, f2.1, f2.2, f3.1, f3.2, f4.1, f4.2]
  have hF0 : Fr h.n h (h.alloc (.cells .own 0 (cdC c pv chv fv bv))) := (Fr.refl _ _).alloc _
  refine stacks_spec (hG.alloc _) (hC.fr hF0) ?_
  cases hs : stacksP c with
  | none =>
    rw [hs] at hQ
    intro h1 hf1
    simp (disch := first | omega | (simp only [hN] <;> omega) | fail) only [go_sem, simprocAttr]
    exact hQ _ (hF0.trans (hf1.any (Nat.le_refl _)))
  | some ls =>
    rw [hs] at hQ
    intro h1 v hf1 hv
    simp (disch := first | omega | (simp only [hN] <;> omega) | fail) only [go_sem, simprocAttr]
    exact hQ _ (hF0.trans (hf1.any (Nat.le_refl _)))
theorem slv_row {h : AHeap} {es b ver n c : Nat} {ex : Bool} {css : List AV} (h0 : 0 < n) (hn : n < 2 ^ 61) (hl : css.length = n * es) (hb : b < h.n) (hg : h.get b = some ⟨ver, .cells .own es css⟩) : SlV h es n css (.slice b 0 n c ex) := .row h0 hn hb hg (row_all hl)
/-- A code of one function. -/
def oneC (body : List Ins) : Cd := ⟨[], 0, 0, [], [⟨0, 0, []⟩], 0, body⟩
theorem cdv_one {h : AHeap} {c : Cd} {pv v : AV} {b ver : Nat} (hf : c.funcs = [⟨0, 0, []⟩]) (hc : c.chans = []) (hp : IntsC h c.places pv) (hv : SlV h 5 c.body.length (c.body.flatMap insC) v) (hb : b < h.n) (hg : h.get b = some ⟨ver, .cells .own 3 [.int .i64 0, .int .i64 0, .nilSlice]⟩) : CdV h c pv .nilSlice (.slice b 0 1 1 true) v := by
  refine ⟨hp, ?_, ⟨[.int .i64 0, .int .i64 0, .nilSlice], ?_, ?_⟩, hv⟩
  · rw [hc]; exact .nil
  · rw [hf]; exact EnsV.cons (f := ⟨0, 0, []⟩) (lv := .nilSlice) (css := []) ⟨.nil, .inl rfl⟩ .nil
  · rw [hf]; exact slv_row (ver := ver) (by decide) (by decide) rfl hb hg
theorem one_spec {h : AHeap} {body : List Ins} {v : AV} (hv : SlV h 5 body.length (body.flatMap insC) v) {Q : QR} (hQ : ∀ h' fv, Fr h.n h h' → CdV h' (oneC body) .nilSlice .nilSlice fv v → Q (.ret (.agg (cdC (oneC body) .nilSlice .nilSlice fv v))) h') : WF F 14 [v] h Q := by
  refine WF.code F14 rfl ?_
  simp (disch := first | omega | (simp only [hN] <;> omega) | fail) only [go_sem, simprocAttr, hv.flat.1, hv.flat.2]
  refine hQ _ _ ?_ (cdv_one (ver := 0) rfl rfl ⟨.nil, .inl rfl⟩ (hv.keep ?_ fun b _ _ _ hb _ => ?_) ?_ ?_)
  · exact ⟨by first | omega | (simp only [hN]; omega), fun b hb hne => by (try simp only [hN] at hb hne); simp (disch := first | omega | (simp only [hN] <;> omega) | fail) only [go_sem, simprocAttr]⟩
  · simp only [hN]; omega
  · simp (disch := first | omega | (simp only [hN] <;> omega) | fail) only [go_sem, simprocAttr]
  · simp only [hN]; omega
  · simp (disch := first | omega | (simp only [hN] <;> omega) | fail) only [go_sem, simprocAttr]
theorem s_ok1 : (stacksP (oneC [⟨24, 0, 0, 0, 0⟩, ⟨12, 0, 0, 0, 0⟩])).isSome = true := by decide
theorem s_ok2 : (stacksP (oneC [⟨12, 0, 0, 0, 0⟩])).isSome = false := by decide
theorem s_ok3 : (stacksP (oneC [⟨1, 1, 0, 0, 0⟩, ⟨25, 0, 0, 0, 0⟩])).isSome = false := by decide
theorem alive_spec {h : AHeap} (hG : GH h) {Q : QR} (hQ : ∀ h', Fr h.n h h' → Q (.ret (.bool true)) h') : WF F 6 [] h Q := by
  refine WF.code F6 rfl ?_
  have hGn := hG.n
  simp (disch := first | omega | (simp only [hN] <;> omega) | fail) only [go_sem, simprocAttr, List.append_nil, List.nil_append]
  refine one_spec (body := [⟨24, 0, 0, 0, 0⟩, ⟨12, 0, 0, 0, 0⟩]) (slv_row (ver := 0) (by decide) (by decide) rfl (Nat.lt_succ_self _) (by (first | (simp (disch := first | omega | (simp only [hN] <;> omega) | fail) only [go_sem, simprocAttr]; done) | (simp (disch := first | omega | (simp only [hN] <;> omega) | fail) only [go_sem, simprocAttr]; rfl)))) ?_
  intro h1 fv hf1 hC1
  have hn1 := hf1.n; try simp only [hN] at hn1
  have hf1' : Fr h.n h h1 := (Fr.alloc (Fr.refl _ _) _).trans (hf1.any (Nat.le_refl _))
  have hG1 := hf1'.gh hGn hG
  simp (disch := first | omega | (simp only [hN] <;> omega) | fail) only [go_sem, simprocAttr]
  refine pcheck_spec hG1 hC1 ?_
  intro h2 hf2
  have hn2 := hf2.n; try simp only [hN] at hn2
  rw [s_ok1, if_pos rfl]
  have hf2' := hf1'.trans (hf2.any (by omega))
  have hG2 := hf2'.gh hGn hG
  simp (disch := first | omega | (simp only [hN] <;> omega) | fail) only [go_sem, simprocAttr, List.append_nil, List.nil_append, eqT_nil]
  refine one_spec (body := [⟨12, 0, 0, 0, 0⟩]) (slv_row (ver := 0) (by decide) (by decide) rfl (Nat.lt_succ_self _) (by (first | (simp (disch := first | omega | (simp only [hN] <;> omega) | fail) only [go_sem, simprocAttr]; done) | (simp (disch := first | omega | (simp only [hN] <;> omega) | fail) only [go_sem, simprocAttr]; rfl)))) ?_
  intro h3 fv3 hf3a hC3
  have hn3a := hf3a.n; try simp only [hN] at hn3a
  have hf3a' : Fr h.n h h3 := hf2'.trans (((Fr.refl h.n _).alloc _).trans (hf3a.any (Nat.le_refl _)))
  have hG3a := hf3a'.gh hGn hG
  simp (disch := first | omega | (simp only [hN] <;> omega) | fail) only [go_sem, simprocAttr]
  refine pcheck_spec hG3a hC3 ?_
  intro h4 hf3b
  have hn3b := hf3b.n; try simp only [hN] at hn3b
  have hok3 := s_ok2
  rw [hok3, if_neg (by decide)]
  have hf3b' := hf3a'.trans (hf3b.any (by omega))
  have hG3b := hf3b'.gh hGn hG
  simp (disch := first | omega | (simp only [hN] <;> omega) | fail) only [go_sem, simprocAttr]
  refine num_spec hG3b (by decide) (by decide) ?_
  intro h4n hf3
  have hn3 := hf3.n; try simp only [hN] at hn3
  have hf3' := hf3b'.trans (hf3.any (by omega))
  have hG3 := hf3'.gh hGn hG
  simp (disch := first | omega | (simp only [hN] <;> omega) | fail) only [go_sem, simprocAttr, List.append_nil, List.nil_append]
  refine one_spec (body := [⟨1, 1, 0, 0, 0⟩, ⟨25, 0, 0, 0, 0⟩]) (slv_row (ver := 0) (by decide) (by decide) rfl (Nat.lt_succ_self _) (by (first | (simp (disch := first | omega | (simp only [hN] <;> omega) | fail) only [go_sem, simprocAttr]; done) | (simp (disch := first | omega | (simp only [hN] <;> omega) | fail) only [go_sem, simprocAttr]; rfl)))) ?_
  intro h5 fv5 hf5a hC5
  have hn5a := hf5a.n; try simp only [hN] at hn5a
  have hf5a' : Fr h.n h h5 := hf3'.trans (((Fr.refl h.n _).alloc _).trans (hf5a.any (Nat.le_refl _)))
  have hG5a := hf5a'.gh hGn hG
  simp (disch := first | omega | (simp only [hN] <;> omega) | fail) only [go_sem, simprocAttr]
  refine pcheck_spec hG5a hC5 ?_
  intro h6 hf5b
  have hn5b := hf5b.n; try simp only [hN] at hn5b
  have hok5 := s_ok3
  rw [hok5, if_neg (by decide)]
  have hf5b' := hf5a'.trans (hf5b.any (by omega))
  have hG5b := hf5b'.gh hGn hG
  simp (disch := first | omega | (simp only [hN] <;> omega) | fail) only [go_sem, simprocAttr]
  refine num_spec hG5b (by decide) (by decide) ?_
  intro h6n hf5
  have hn5 := hf5.n; try simp only [hN] at hn5
  have hf5' := hf5b'.trans (hf5.any (by omega))
  have hG5 := hf5'.gh hGn hG
  simp (disch := first | omega | (simp only [hN] <;> omega) | fail) only [go_sem, simprocAttr]
  exact hQ _ hf5'
end Go.Ev
/- Proofread: slices that grow; the statement on jumps back. -/
namespace Go.Ev
open Go
set_option maxRecDepth 100000
set_option maxHeartbeats 4000000

/-- A slice that grows at its end alone: so many elements, their cells. -/
def Sl (es lo : Nat) (h : AHeap) (v : AV) (n : Nat) (cs : List AV) : Prop :=
  cs.length = n * es ∧ ((n = 0 ∧ v = .nilSlice) ∨ (0 < n ∧ ∃ b ver, v = .slice b 0 n n false ∧ lo ≤ b ∧ b < h.n ∧ h.get b = some ⟨ver, .cells .own es cs⟩))
theorem Sl.nil {es lo : Nat} {h : AHeap} : Sl es lo h .nilSlice 0 [] := ⟨by simp, .inl ⟨rfl, rfl⟩⟩
theorem Sl.fr {es lo r n : Nat} {h h' : AHeap} {v : AV} {cs : List AV} (s : Sl es lo h v n cs) (f : Fr r h h') (hr : r < lo ∨ h.n ≤ r) : Sl es lo h' v n cs := by
  obtain ⟨hl, s⟩ := s
  refine ⟨hl, s.imp id ?_⟩
  rintro ⟨hn, b, ver, e, h1, h2, h3⟩
  exact ⟨hn, b, ver, e, h1, Nat.lt_of_lt_of_le h2 f.n, by rw [f.old b h2 (by omega)]; exact h3⟩
theorem Sl.flat {es lo n : Nat} {h : AHeap} {v : AV} {cs : List AV} (s : Sl es lo h v n cs) : v.flat = true ∧ v.cells = [v] := by
  obtain ⟨_, ⟨_, rfl⟩ | ⟨_, b, ver, rfl, _⟩⟩ := s <;> exact ⟨rfl, rfl⟩
theorem Sl.len {es lo n : Nat} {h : AHeap} {v : AV} {cs : List AV} (s : Sl es lo h v n cs) : lenA v = some (n : Int) := by
  obtain ⟨_, ⟨h1, rfl⟩ | ⟨_, b, ver, rfl, _⟩⟩ := s
  · rw [h1]; rfl
  · rfl
theorem Sl.lo {es lo lo' n : Nat} {h : AHeap} {v : AV} {cs : List AV} (s : Sl es lo h v n cs) (hl : lo' ≤ lo) : Sl es lo' h v n cs := by
  obtain ⟨h0, s⟩ := s
  refine ⟨h0, s.imp id ?_⟩
  rintro ⟨hn, b, ver, e, h1, h2⟩
  exact ⟨hn, b, ver, e, Nat.le_trans hl h1, h2⟩
theorem Sl.append {es lo n k bytes : Nat} {h : AHeap} {v : AV} {cs new : List AV} (s : Sl es lo h v n cs) (hk : 0 < k) (hlo : lo ≤ h.n) (hnew : new.length = k * es) (hflat : allFlat new = true) (hroom : (n + k) * bytes ≤ room) (hn : n + k ≤ room) (hkr : k * bytes ≤ room) :
    ∃ v' h', appendA h es bytes v k new = some (v', h') ∧ Sl es lo h' v' (n + k) (cs ++ new) ∧ h'.n = h.n + 1 ∧ ∀ b, b < lo → h'.get b = h.get b := by
  have k0 : ¬ k = 0 := by omega
  obtain ⟨hl, ⟨rfl, rfl⟩ | ⟨hpos, b, ver, rfl, h1, h2, h3⟩⟩ := s
  · have hcs : cs = [] := List.length_eq_zero_iff.1 (by simpa using hl)
    subst hcs
    refine ⟨.slice h.n 0 k k false, h.alloc (.cells .own es new), ?_, ⟨by simp [hnew], .inr ⟨by omega, h.n, 0, by rw [Nat.zero_add], hlo, by rw [AHeap.alloc_n]; omega, by rw [AHeap.get_alloc, if_pos rfl]; rfl⟩⟩, rfl, fun b hb => by rw [AHeap.get_alloc, if_neg (by omega)]⟩
    simp only [appendA, hnew, hflat, beq_nat, ble_nat, decide_true, Bool.not_true, Bool.or_false, cond_false, k0, decide_false, cond_true]
    rw [decide_eq_true (show k ≤ room by omega), decide_eq_true hkr]
    rfl
  · have hrow : row cs 0 (n * es) = some cs := row_all hl
    refine ⟨.slice h.n 0 (n + k) (n + k) false, (h.upd b (ver + 1) .dead).alloc (.cells .own es (cs ++ new)), ?_, ⟨by rw [List.length_append, hl, hnew, Nat.add_mul], .inr ⟨by omega, h.n, 0, rfl, by omega, by rw [AHeap.alloc_n, AHeap.upd_n]; omega, by rw [AHeap.get_alloc, AHeap.upd_n, if_pos rfl]⟩⟩, rfl, fun b' hb => by rw [AHeap.get_alloc, AHeap.upd_n, if_neg (by omega), AHeap.get_upd, if_neg (by omega)]⟩
    have e1 : ¬ n + k ≤ n := by omega
    have e2 : ¬ n = 0 := by omega
    simp only [appendA, h3, hnew, hflat, hrow, beq_nat, ble_nat, decide_true, Bool.not_true, Bool.or_false, cond_false, k0, decide_false, cond_true, e1, e2, decide_eq_true hroom, decide_eq_true hn, Bool.and_true]
theorem Sl.slv {es lo n : Nat} {h : AHeap} {v : AV} {cs : List AV} (s : Sl es lo h v n cs) (hn : n < 2 ^ 61) : SlV h es n cs v := by
  obtain ⟨hl, ⟨rfl, rfl⟩ | ⟨hpos, b, ver, rfl, h1, h2, h3⟩⟩ := s
  · have hcs : cs = [] := List.length_eq_zero_iff.1 (by simpa using hl)
    rw [hcs]; exact .nil
  · exact slv_row hpos hn hl h2 h3
end Go.Ev
/- The statement on the stack's height. -/
namespace Go.Ev
open Go
set_option maxRecDepth 100000
set_option maxHeartbeats 4000000

end Go.Ev
/- Proofread: the document's answer on forms, of codes in form. -/
namespace Go.Ev
open Go
set_option maxRecDepth 100000
set_option maxHeartbeats 4000000

theorem in_spec {n m : Int} {h : AHeap} {Q : QR} (h1 : 0 ≤ n) (h2 : n < m) (hQ : Q (.ret (.bool true)) h) : WF F 19 [.int .i64 n, .int .i64 m] h Q := by
  refine WF.code F19 rfl ?_
  have g1 : decide (n ≥ 0) = true := decide_eq_true h1
  have g2 : decide (n < m) = true := decide_eq_true h2
  simp (disch := first | omega | (simp only [hN] <;> omega) | fail) only [go_sem, simprocAttr, g1, g2]
  exact hQ
theorem rtyp14 {t : Int} {h : AHeap} {Q : QR} (h1 : typB t = true) (hQ : Q (.ret (.bool true)) h) : WF F 20 [.int .i64 t] h Q := by
  refine WF.code F20 rfl ?_
  simp [typB, inside] at h1
  have g1 : decide (t ≥ 1) = true := decide_eq_true h1.1
  have g2 : decide (t ≤ 3) = true := decide_eq_true h1.2
  simp (disch := first | omega | (simp only [hN] <;> omega) | fail) only [go_sem, simprocAttr, g1, g2]
  exact hQ
theorem rinstr_spec {h : AHeap} {c : Cd} {x : Ins} {pv chv fv bv : AV} (hC : CdV h c pv chv fv bv) (hx : insOk c x = true) {Q : QR} (hQ : ∀ h', Fr h.n h h' → Q (.ret (.bool true)) h') : WF F 21 [.agg (cdC c pv chv fv bv), .agg (insC x)] h Q := by
  refine WF.code F21 rfl ?_
  obtain ⟨f1, f2, f3, f4⟩ := hC.flats
  obtain ⟨l1, l2, l3, l4⟩ := hC.lens
  obtain ⟨s1, s2, s3, s4⟩ := hC.smalls
  simp only [insOk, Bool.and_eq_true] at hx
  obtain ⟨hp, hb⟩ := hx
  simp [inside] at hp
  have g1 : decide (x.pos < 0) = false := decide_eq_false (by omega)
  have g2 : decide (x.pos > 8192) = false := decide_eq_false (by omega)
  simp (disch := first | omega | (simp only [hN] <;> omega) | fail) only [go_sem, simprocAttr, cdC, insC, f1.1, f1.2, f2.1, f2.2, f3.1, f3.2, f4.1, f4.2, g1, g2]
  have hF0 : Fr h.n h ((h.alloc (.cells .own 0 (cdC c pv chv fv bv))).alloc (.cells .own 0 (insC x))) := ((Fr.refl _ _).alloc _).alloc _
  simp only [cdC, insC] at hF0
  generalize hHH : AHeap.alloc (AHeap.alloc h _) _ = H at hF0 ⊢
  have hHn : H.n = h.n + 2 := by rw [← hHH]; simp (disch := first | omega | (simp only [hN] <;> omega) | fail) only [go_sem, simprocAttr]
  have b0 : H.get h.n = some ⟨0, .cells .own 0 (cdC c pv chv fv bv)⟩ := by rw [← hHH]; simp (disch := first | omega | (simp only [hN] <;> omega) | fail) only [go_sem, simprocAttr, cdC]
  have b1 : H.get (h.n + 1) = some ⟨0, .cells .own 0 (insC x)⟩ := by rw [← hHH]; simp (disch := first | omega | (simp only [hN] <;> omega) | fail) only [go_sem, simprocAttr, insC]
  clear hHH g1 g2
  obtain ⟨op, a, b, bits, pos⟩ := x
  simp only at b1 hp hb
  simp only [cdC] at b0
  simp only [insC] at b1
  by_cases e1 : op = 1
  · subst e1
    simp [insB, inside] at hb
    have qb : (b == 0) = true := by simp; omega
    have q0 : (bits == 0) = true := by simp; omega
    have q1 : decide (a ≥ 0) = true := decide_eq_true (by omega)
    simp (disch := first | omega | (simp only [hN] <;> omega) | fail) only [go_sem, simprocAttr, b0, b1, q1, qb, q0]
    exact hQ _ hF0
  by_cases e2 : op = 2
  · subst e2
    simp [insB, inside] at hb
    have qa : (a == 0) = true := by simp; omega
    have qb : (b == 0) = true := by simp; omega
    simp (disch := first | omega | (simp only [hN] <;> omega) | fail) only [go_sem, simprocAttr, b0, b1, qa, qb]
    exact hQ _ hF0
  by_cases e3 : op = 3
  · subst e3
    simp [insB, inside] at hb
    have qb : (b == 0) = true := by simp; omega
    have q0 : (bits == 0) = true := by simp; omega
    simp (disch := first | omega | (simp only [hN] <;> omega) | fail) only [go_sem, simprocAttr, b0, b1]
    refine in_spec (by omega) (by omega) ?_
    simp (disch := first | omega | (simp only [hN] <;> omega) | fail) only [go_sem, simprocAttr, b0, b1, qb, q0]
    exact hQ _ hF0
  by_cases e4 : op = 4
  · subst e4
    simp [insB, inside] at hb
    have qb : (b == 0) = true := by simp; omega
    have q0 : (bits == 0) = true := by simp; omega
    simp (disch := first | omega | (simp only [hN] <;> omega) | fail) only [go_sem, simprocAttr, b0, b1]
    refine in_spec (by omega) (by omega) ?_
    simp (disch := first | omega | (simp only [hN] <;> omega) | fail) only [go_sem, simprocAttr, b0, b1, qb, q0]
    exact hQ _ hF0
  by_cases e5 : op = 5
  · subst e5
    simp [insB, inside] at hb
    have qb : (b == 0) = true := by simp; omega
    have q0 : (bits == 0) = true := by simp; omega
    simp (disch := first | omega | (simp only [hN] <;> omega) | fail) only [go_sem, simprocAttr, b0, b1]
    refine in_spec (by omega) (by omega) ?_
    simp (disch := first | omega | (simp only [hN] <;> omega) | fail) only [go_sem, simprocAttr, b0, b1, qb, q0]
    exact hQ _ hF0
  by_cases e6 : op = 6
  · subst e6
    simp [insB, inside] at hb
    have qb : (b == 0) = true := by simp; omega
    have q0 : (bits == 0) = true := by simp; omega
    simp (disch := first | omega | (simp only [hN] <;> omega) | fail) only [go_sem, simprocAttr, b0, b1, l1]
    refine in_spec (by omega) (by omega) ?_
    simp (disch := first | omega | (simp only [hN] <;> omega) | fail) only [go_sem, simprocAttr, b0, b1, qb, q0]
    exact hQ _ hF0
  by_cases e7 : op = 7
  · subst e7
    simp [insB, inside] at hb
    have qb : (b == 0) = true := by simp; omega
    have q0 : (bits == 0) = true := by simp; omega
    simp (disch := first | omega | (simp only [hN] <;> omega) | fail) only [go_sem, simprocAttr, b0, b1, l1]
    refine in_spec (by omega) (by omega) ?_
    simp (disch := first | omega | (simp only [hN] <;> omega) | fail) only [go_sem, simprocAttr, b0, b1, qb, q0]
    exact hQ _ hF0
  by_cases e12 : op = 12
  · subst e12
    simp [insB, inside] at hb
    have qb : (b == 0) = true := by simp; omega
    have q0 : (bits == 0) = true := by simp; omega
    simp (disch := first | omega | (simp only [hN] <;> omega) | fail) only [go_sem, simprocAttr, b0, b1, l4]
    refine in_spec (by omega) (by omega) ?_
    simp (disch := first | omega | (simp only [hN] <;> omega) | fail) only [go_sem, simprocAttr, b0, b1, qb, q0]
    exact hQ _ hF0
  by_cases e15 : op = 15
  · subst e15
    simp [insB, inside] at hb
    have qb : (b == 0) = true := by simp; omega
    have q0 : (bits == 0) = true := by simp; omega
    simp (disch := first | omega | (simp only [hN] <;> omega) | fail) only [go_sem, simprocAttr, b0, b1]
    refine in_spec (by omega) (by omega) ?_
    simp (disch := first | omega | (simp only [hN] <;> omega) | fail) only [go_sem, simprocAttr, b0, b1, qb, q0]
    exact hQ _ hF0
  by_cases e16 : op = 16
  · subst e16
    simp [insB, inside] at hb
    have qb : (b == 0) = true := by simp; omega
    have q0 : (bits == 0) = true := by simp; omega
    simp (disch := first | omega | (simp only [hN] <;> omega) | fail) only [go_sem, simprocAttr, b0, b1]
    refine in_spec (by omega) (by omega) ?_
    simp (disch := first | omega | (simp only [hN] <;> omega) | fail) only [go_sem, simprocAttr, b0, b1, qb, q0]
    exact hQ _ hF0
  by_cases e17 : op = 17
  · subst e17
    simp [insB, inside] at hb
    have qb : (b == 0) = true := by simp; omega
    have q0 : (bits == 0) = true := by simp; omega
    simp (disch := first | omega | (simp only [hN] <;> omega) | fail) only [go_sem, simprocAttr, b0, b1, l2]
    refine in_spec (by omega) (by omega) ?_
    simp (disch := first | omega | (simp only [hN] <;> omega) | fail) only [go_sem, simprocAttr, b0, b1, qb, q0]
    exact hQ _ hF0
  by_cases e18 : op = 18
  · subst e18
    simp [insB, inside] at hb
    have qb : (b == 0) = true := by simp; omega
    have q0 : (bits == 0) = true := by simp; omega
    simp (disch := first | omega | (simp only [hN] <;> omega) | fail) only [go_sem, simprocAttr, b0, b1, l2]
    refine in_spec (by omega) (by omega) ?_
    simp (disch := first | omega | (simp only [hN] <;> omega) | fail) only [go_sem, simprocAttr, b0, b1, qb, q0]
    exact hQ _ hF0
  by_cases e19 : op = 19
  · subst e19
    simp [insB, inside] at hb
    have qb : (b == 0) = true := by simp; omega
    have q0 : (bits == 0) = true := by simp; omega
    simp (disch := first | omega | (simp only [hN] <;> omega) | fail) only [go_sem, simprocAttr, b0, b1]
    refine in_spec (by omega) (by omega) ?_
    simp (disch := first | omega | (simp only [hN] <;> omega) | fail) only [go_sem, simprocAttr, b0, b1, qb, q0]
    exact hQ _ hF0
  by_cases e20 : op = 20
  · subst e20
    simp [insB, inside] at hb
    have qb : (b == 0) = true := by simp; omega
    have q0 : (bits == 0) = true := by simp; omega
    simp (disch := first | omega | (simp only [hN] <;> omega) | fail) only [go_sem, simprocAttr, b0, b1]
    refine in_spec (by omega) (by omega) ?_
    simp (disch := first | omega | (simp only [hN] <;> omega) | fail) only [go_sem, simprocAttr, b0, b1, qb, q0]
    exact hQ _ hF0
  by_cases e21 : op = 21
  · subst e21
    simp [insB, inside] at hb
    have qb : (b == 0) = true := by simp; omega
    have q0 : (bits == 0) = true := by simp; omega
    simp (disch := first | omega | (simp only [hN] <;> omega) | fail) only [go_sem, simprocAttr, b0, b1]
    refine in_spec (by omega) (by omega) ?_
    simp (disch := first | omega | (simp only [hN] <;> omega) | fail) only [go_sem, simprocAttr, b0, b1, qb, q0]
    exact hQ _ hF0
  by_cases e22 : op = 22
  · subst e22
    simp [insB, inside] at hb
    have qb : (b == 0) = true := by simp; omega
    have q0 : (bits == 0) = true := by simp; omega
    simp (disch := first | omega | (simp only [hN] <;> omega) | fail) only [go_sem, simprocAttr, b0, b1, l3]
    refine in_spec (by omega) (by omega) ?_
    simp (disch := first | omega | (simp only [hN] <;> omega) | fail) only [go_sem, simprocAttr, b0, b1, qb, q0]
    exact hQ _ hF0
  by_cases e23 : op = 23
  · subst e23
    simp [insB, inside] at hb
    have qb : (b == 0) = true := by simp; omega
    have q0 : (bits == 0) = true := by simp; omega
    simp (disch := first | omega | (simp only [hN] <;> omega) | fail) only [go_sem, simprocAttr, b0, b1, l3]
    refine in_spec (by omega) (by omega) ?_
    simp (disch := first | omega | (simp only [hN] <;> omega) | fail) only [go_sem, simprocAttr, b0, b1, qb, q0]
    exact hQ _ hF0
  by_cases e13 : op = 13
  · subst e13
    simp [insB, inside] at hb
    have q0 : (bits == 0) = true := by simp; omega
    simp (disch := first | omega | (simp only [hN] <;> omega) | fail) only [go_sem, simprocAttr, b0, b1, l4]
    refine in_spec (by omega) (by omega) ?_
    simp (disch := first | omega | (simp only [hN] <;> omega) | fail) only [go_sem, simprocAttr, b0, b1]
    refine in_spec (by omega) (by omega) ?_
    simp (disch := first | omega | (simp only [hN] <;> omega) | fail) only [go_sem, simprocAttr, b0, b1, q0]
    exact hQ _ hF0
  by_cases e14 : op = 14
  · subst e14
    simp [insB, inside] at hb
    have q0 : (bits == 0) = true := by simp; omega
    simp (disch := first | omega | (simp only [hN] <;> omega) | fail) only [go_sem, simprocAttr, b0, b1, l4]
    refine in_spec (by omega) (by omega) ?_
    simp (disch := first | omega | (simp only [hN] <;> omega) | fail) only [go_sem, simprocAttr, b0, b1]
    refine in_spec (by omega) (by omega) ?_
    simp (disch := first | omega | (simp only [hN] <;> omega) | fail) only [go_sem, simprocAttr, b0, b1, q0]
    exact hQ _ hF0
  by_cases e24 : op = 24
  · subst e24
    simp [insB, inside] at hb
    have qa : (a == 0) = true := by simp; omega
    have qb : (b == 0) = true := by simp; omega
    have q0 : (bits == 0) = true := by simp; omega
    simp (disch := first | omega | (simp only [hN] <;> omega) | fail) only [go_sem, simprocAttr, b0, b1, qa, qb, q0]
    exact hQ _ hF0
  by_cases e25 : op = 25
  · subst e25
    simp [insB, inside] at hb
    have qa : (a == 0) = true := by simp; omega
    have qb : (b == 0) = true := by simp; omega
    have q0 : (bits == 0) = true := by simp; omega
    simp (disch := first | omega | (simp only [hN] <;> omega) | fail) only [go_sem, simprocAttr, b0, b1, qa, qb, q0]
    exact hQ _ hF0
  by_cases e26 : op = 26
  · subst e26
    simp [insB, inside] at hb
    have qa : (a == 0) = true := by simp; omega
    have qb : (b == 0) = true := by simp; omega
    have q0 : (bits == 0) = true := by simp; omega
    simp (disch := first | omega | (simp only [hN] <;> omega) | fail) only [go_sem, simprocAttr, b0, b1, qa, qb, q0]
    exact hQ _ hF0
  by_cases e10 : op = 10
  · subst e10
    have hop : 1 ≤ a ∧ a < 5 := by
      simp only [insB] at hb
      by_cases h1 : a < 0
      · have : opName 10 a = [] := by simp [opName, h1]
        simp [this] at hb
      · by_cases h2 : a < 5
        · refine ⟨?_, h2⟩
          by_cases h3 : a = 0
          · subst h3
            have : opName 10 0 = [] := by decide
            simp [this] at hb
          · omega
        · exfalso
          have : opName 10 a = [] := by
            have : unaryL.length ≤ a.toNat := by simp [unaryL]; omega
            simp [opName, h1, List.getElem?_eq_none this]
          simp [this] at hb
    simp [insB] at hb
    have qb : (b == 0) = true := by simp; omega
    have q0 : (bits == 0) = true := by simp; omega
    have q1 : decide (a ≥ 1) = true := decide_eq_true (by omega)
    have q2 : decide (a ≤ 4) = true := decide_eq_true (by omega)
    simp (disch := first | omega | (simp only [hN] <;> omega) | fail) only [go_sem, simprocAttr, b0, b1, q1, q2, qb, q0]
    exact hQ _ hF0
  by_cases e11 : op = 11
  · subst e11
    have hop : 1 ≤ a ∧ a < 12 := by
      simp only [insB] at hb
      by_cases h1 : a < 0
      · have : opName 11 a = [] := by simp [opName, h1]
        simp [this] at hb
      · by_cases h2 : a < 12
        · refine ⟨?_, h2⟩
          by_cases h3 : a = 0
          · subst h3
            have : opName 11 0 = [] := by decide
            simp [this] at hb
          · omega
        · exfalso
          have : opName 11 a = [] := by
            have : binaryL.length ≤ a.toNat := by simp [binaryL]; omega
            simp [opName, h1, List.getElem?_eq_none this]
          simp [this] at hb
    simp [insB] at hb
    have qb : (b == 0) = true := by simp; omega
    have q0 : (bits == 0) = true := by simp; omega
    have q1 : decide (a ≥ 1) = true := decide_eq_true (by omega)
    have q2 : decide (a ≤ 11) = true := decide_eq_true (by omega)
    simp (disch := first | omega | (simp only [hN] <;> omega) | fail) only [go_sem, simprocAttr, b0, b1, q1, q2, qb, q0]
    exact hQ _ hF0
  by_cases e8 : op = 8
  · subst e8
    simp [insB, arrayB, inside] at hb
    obtain ⟨⟨⟨⟨hb1, hb2⟩, ha1, ha2⟩, hall⟩, h0⟩ := hb
    obtain ⟨m, rfl⟩ := Int.eq_ofNat_of_zero_le ha1
    obtain ⟨kk, rfl⟩ := Int.eq_ofNat_of_zero_le (show 0 ≤ b by omega)
    simp only [Int.toNat_natCast] at hall
    have hm1 : m < c.places.length := by omega
    have hel : ∀ j, (hj : j < kk) → ∃ hlt : m + j < c.places.length, c.places[m + j] = c.places[m] := by
      intro j hj
      have hlt : m + j < c.places.length := by omega
      refine ⟨hlt, ?_⟩
      have hmem : c.places[m + j] ∈ (c.places.drop m).take kk := by
        have h1 : ((c.places.drop m).take kk)[j]? = some c.places[m + j] := by
          rw [List.getElem?_take, if_pos hj, List.getElem?_drop, List.getElem?_eq_getElem hlt]
        exact List.mem_of_getElem? h1
      have := hall _ hmem
      rw [this, List.getElem?_eq_getElem hm1]; rfl
    have q0 : (bits == 0) = true := by simp [h0]
    have q1 : decide ((kk : Int) ≥ 1) = true := decide_eq_true (by omega)
    have q2 : decide ((kk : Int) ≤ 64) = true := decide_eq_true (by omega)
    have q3 : decide ((m : Int) ≥ 0) = true := decide_eq_true (by omega)
    have q4 : decide ((m : Int) < (c.places.length : Int)) = true := decide_eq_true (by omega)
    have q5 : decide ((kk : Int) ≤ (c.places.length : Int) - (m : Int)) = true := decide_eq_true (by omega)
    obtain ⟨b', o, cp, ex, ver', md, bs, rfl, hbb, hg0, hrm⟩ := ints_at hC.places.1 hm1
    have hg := (hF0.all hbb).trans hg0
    have im : ((m : Int) < (c.places.length : Int)) = True := by simp [hm1]
    simp (disch := first | omega | (simp only [hN] <;> omega) | fail) only [go_sem, simprocAttr, b0, b1, l1, q1, q2, q3, q4, q5]
    refine wp_loop (fun n a h' => ∃ i : Nat, n = kk - i ∧ i ≤ kk ∧ h' = H ∧ a.tm.get 2 = some (.ptr h.n 0) ∧ a.tm.get 3 = some (.ptr (h.n + 1) 0) ∧ a.tm.get 5 = some (.bool true) ∧ a.tm.get 6 = some (.bool true) ∧ a.tm.get 7 = some (.bool false) ∧ a.tm.get 8 = some (.bool true) ∧ a.tm.get 9 = some (.int .i64 (i : Int)) ∧ a.df = []) ?_ kk ?_
    · rintro n ⟨t, df⟩ h' ⟨i, hn, hi, rfl, k2, k3, k5, k6, k7, k8, k9, hdf⟩
      simp only at k2 k3 k5 k6 k7 k8 k9 hdf
      subst hdf
      by_cases hik : i < kk
      · have i2 : decide ((i : Int) < (kk : Int)) = true := decide_eq_true (by omega)
        have iN : ((i : Int) + 1) = ((i + 1 : Nat) : Int) := by omega
        have mi : ((m : Int) + (i : Int)) = ((m + i : Nat) : Int) := by omega
        obtain ⟨hlt, heq⟩ := hel i hik
        obtain ⟨b2, o2, cp2, ex2, ver2, md2, bs2, e2, hb2', hg2, hri⟩ := ints_at hC.places.1 hlt
        simp only [AV.slice.injEq] at e2
        obtain ⟨rfl, rfl, -, rfl, rfl⟩ := e2
        rw [hg0] at hg2
        cases hg2
        have imi : (((m + i : Nat) : Int) < (c.places.length : Int)) = True := by simp; omega
        have heqb : (c.places[m + i] == c.places[m]) = true := by simp [heq]
        simp (disch := first | omega | (simp only [hN] <;> omega) | fail) only [go_sem, simprocAttr, k2, k3, k5, k6, k7, k8, k9, b0, b1, i2, hg, hrm, hri, im, imi, mi, heqb, iN, Int.toNat_natCast, Nat.mul_one]
        refine ⟨kk - (i + 1), by omega, i + 1, rfl, hik, ?_⟩
        simp (disch := first | omega | (simp only [hN] <;> omega) | fail) only [go_sem, simprocAttr]
      · have i2 : decide ((i : Int) < (kk : Int)) = false := decide_eq_false (by omega)
        simp (disch := first | omega | (simp only [hN] <;> omega) | fail) only [go_sem, simprocAttr, k2, k3, k5, k6, k7, k8, k9, b0, b1, i2, q0]
        exact hQ _ hF0
    · simp (disch := first | omega | (simp only [hN] <;> omega) | fail) only [go_sem, simprocAttr]
      exact ⟨0, rfl, Nat.zero_le _, rfl⟩
  by_cases e9 : op = 9
  · subst e9
    simp [insB, arrayB, inside] at hb
    obtain ⟨⟨⟨⟨hb1, hb2⟩, ha1, ha2⟩, hall⟩, h0⟩ := hb
    obtain ⟨m, rfl⟩ := Int.eq_ofNat_of_zero_le ha1
    obtain ⟨kk, rfl⟩ := Int.eq_ofNat_of_zero_le (show 0 ≤ b by omega)
    simp only [Int.toNat_natCast] at hall
    have hm1 : m < c.places.length := by omega
    have hel : ∀ j, (hj : j < kk) → ∃ hlt : m + j < c.places.length, c.places[m + j] = c.places[m] := by
      intro j hj
      have hlt : m + j < c.places.length := by omega
      refine ⟨hlt, ?_⟩
      have hmem : c.places[m + j] ∈ (c.places.drop m).take kk := by
        have h1 : ((c.places.drop m).take kk)[j]? = some c.places[m + j] := by
          rw [List.getElem?_take, if_pos hj, List.getElem?_drop, List.getElem?_eq_getElem hlt]
        exact List.mem_of_getElem? h1
      have := hall _ hmem
      rw [this, List.getElem?_eq_getElem hm1]; rfl
    have q0 : (bits == 0) = true := by simp [h0]
    have q1 : decide ((kk : Int) ≥ 1) = true := decide_eq_true (by omega)
    have q2 : decide ((kk : Int) ≤ 64) = true := decide_eq_true (by omega)
    have q3 : decide ((m : Int) ≥ 0) = true := decide_eq_true (by omega)
    have q4 : decide ((m : Int) < (c.places.length : Int)) = true := decide_eq_true (by omega)
    have q5 : decide ((kk : Int) ≤ (c.places.length : Int) - (m : Int)) = true := decide_eq_true (by omega)
    obtain ⟨b', o, cp, ex, ver', md, bs, rfl, hbb, hg0, hrm⟩ := ints_at hC.places.1 hm1
    have hg := (hF0.all hbb).trans hg0
    have im : ((m : Int) < (c.places.length : Int)) = True := by simp [hm1]
    simp (disch := first | omega | (simp only [hN] <;> omega) | fail) only [go_sem, simprocAttr, b0, b1, l1, q1, q2, q3, q4, q5]
    refine wp_loop (fun n a h' => ∃ i : Nat, n = kk - i ∧ i ≤ kk ∧ h' = H ∧ a.tm.get 2 = some (.ptr h.n 0) ∧ a.tm.get 3 = some (.ptr (h.n + 1) 0) ∧ a.tm.get 5 = some (.bool true) ∧ a.tm.get 6 = some (.bool true) ∧ a.tm.get 7 = some (.bool false) ∧ a.tm.get 8 = some (.bool true) ∧ a.tm.get 9 = some (.int .i64 (i : Int)) ∧ a.df = []) ?_ kk ?_
    · rintro n ⟨t, df⟩ h' ⟨i, hn, hi, rfl, k2, k3, k5, k6, k7, k8, k9, hdf⟩
      simp only at k2 k3 k5 k6 k7 k8 k9 hdf
      subst hdf
      by_cases hik : i < kk
      · have i2 : decide ((i : Int) < (kk : Int)) = true := decide_eq_true (by omega)
        have iN : ((i : Int) + 1) = ((i + 1 : Nat) : Int) := by omega
        have mi : ((m : Int) + (i : Int)) = ((m + i : Nat) : Int) := by omega
        obtain ⟨hlt, heq⟩ := hel i hik
        obtain ⟨b2, o2, cp2, ex2, ver2, md2, bs2, e2, hb2', hg2, hri⟩ := ints_at hC.places.1 hlt
        simp only [AV.slice.injEq] at e2
        obtain ⟨rfl, rfl, -, rfl, rfl⟩ := e2
        rw [hg0] at hg2
        cases hg2
        have imi : (((m + i : Nat) : Int) < (c.places.length : Int)) = True := by simp; omega
        have heqb : (c.places[m + i] == c.places[m]) = true := by simp [heq]
        simp (disch := first | omega | (simp only [hN] <;> omega) | fail) only [go_sem, simprocAttr, k2, k3, k5, k6, k7, k8, k9, b0, b1, i2, hg, hrm, hri, im, imi, mi, heqb, iN, Int.toNat_natCast, Nat.mul_one]
        refine ⟨kk - (i + 1), by omega, i + 1, rfl, hik, ?_⟩
        simp (disch := first | omega | (simp only [hN] <;> omega) | fail) only [go_sem, simprocAttr]
      · have i2 : decide ((i : Int) < (kk : Int)) = false := decide_eq_false (by omega)
        simp (disch := first | omega | (simp only [hN] <;> omega) | fail) only [go_sem, simprocAttr, k2, k3, k5, k6, k7, k8, k9, b0, b1, i2, q0]
        exact hQ _ hF0
    · simp (disch := first | omega | (simp only [hN] <;> omega) | fail) only [go_sem, simprocAttr]
      exact ⟨0, rfl, Nat.zero_le _, rfl⟩
  simp [insB, e1, e2, e3, e4, e5, e6, e7, e12, e15, e16, e17, e18, e19, e20, e21, e22, e23, e13, e14, e24, e25, e26, e10, e11, e8, e9] at hb
end Go.Ev
/- Proofread: the document's answer on a code in form. -/
namespace Go.Ev
open Go
set_option maxRecDepth 100000
set_option maxHeartbeats 4000000

theorem ensOk_step {nb : Int} : ∀ {l : List En} {last : Int} {first : Bool} {i : Nat} (hi : i + 1 < l.length), ensOk nb last first l = true → l[i].start < l[i + 1].start
  | [], _, _, i, hi, _ => by simp at hi
  | [f], _, _, i, hi, _ => by simp at hi
  | f :: g :: l, last, first, 0, hi, h => by
    simp only [ensOk, Bool.and_eq_true] at h
    have := h.2.1
    simp [enOk] at this
    simpa using this.1.1.1.1
  | f :: g :: l, last, first, i + 1, hi, h => by
    rw [ensOk, Bool.and_eq_true] at h
    have := ensOk_step (l := g :: l) (i := i) (by simpa using hi) h.2
    simpa using this
theorem ensOk_mem {nb : Int} : ∀ {l : List En} {last : Int} {first : Bool}, ensOk nb last first l = true → ∀ f ∈ l, ∃ last first, enOk nb last first f = true
  | [], _, _, _, f, hf => by cases hf
  | g :: l, last, first, h, f, hf => by
    simp only [ensOk, Bool.and_eq_true] at h
    rcases List.mem_cons.1 hf with rfl | hf
    · exact ⟨_, _, h.1⟩
    · exact ensOk_mem h.2 f hf
theorem ensOk_zero {nb : Int} {l : List En} {last : Int} (h0 : 0 < l.length) (h : ensOk nb last true l = true) : l[0].start = 0 := by
  cases l with
  | nil => simp at h0
  | cons g l =>
    simp only [ensOk, Bool.and_eq_true] at h
    have := h.1
    simp [enOk] at this
    simpa using this.1.1.1.1.2
theorem inform_spec {h : AHeap} {c : Cd} {pv chv fv bv : AV} (hC : CdV h c pv chv fv bv) (hfm : formB c = true) {Q : QR} (hQ : ∀ h', Fr h.n h h' → Q (.ret (.bool true)) h') : WF F 10 [.agg (cdC c pv chv fv bv)] h Q := by
  refine WF.code F10 rfl ?_
  obtain ⟨f1, f2, f3, f4⟩ := hC.flats
  obtain ⟨l1, l2, l3, l4⟩ := hC.lens
  obtain ⟨s1, s2, s3, s4⟩ := hC.smalls
  simp only [formB, shapeB, Bool.and_eq_true] at hfm
  obtain ⟨⟨⟨⟨hhd, hch⟩, hen⟩, hpl⟩, hins⟩ := hfm
  simp [headOk, inside] at hhd
  obtain ⟨⟨⟨⟨⟨⟨⟨p1, p2⟩, p3⟩, p4⟩, p5⟩, p6⟩, p7⟩, p8⟩ := hhd
  simp (disch := first | omega | (simp only [hN] <;> omega) | fail) only [go_sem, simprocAttr, cdC, f1.1, f1.2, f2.1, f2.2, f3.1, f3.2, f4.1, f4.2]
  have hF0 : Fr h.n h (h.alloc (.cells .own 0 (cdC c pv chv fv bv))) := (Fr.refl _ _).alloc _
  simp only [cdC] at hF0
  generalize hHH : AHeap.alloc h _ = H at hF0 ⊢
  have hHn : H.n = h.n + 1 := by rw [← hHH]; simp (disch := first | omega | (simp only [hN] <;> omega) | fail) only [go_sem, simprocAttr]
  have b0 : H.get h.n = some ⟨0, .cells .own 0 (cdC c pv chv fv bv)⟩ := by rw [← hHH]; simp (disch := first | omega | (simp only [hN] <;> omega) | fail) only [go_sem, simprocAttr, cdC]
  simp only [cdC] at b0
  clear hHH
  replace hC := hC.fr hF0
  obtain ⟨m, hm⟩ := Int.eq_ofNat_of_zero_le p7.1
  have hml : m < c.funcs.length := by omega
  obtain ⟨css, hE, hfs⟩ := hC.funcs
  obtain ⟨b', o, cp, ex, ver', md, bs, rfl, hb, hg, hrw⟩ := hfs.inv (by omega)
  obtain ⟨lv', hrow, hlv⟩ := hE.at hml
  have hpar : bs[o + m * 3 + 1]? = some (.int .i64 c.funcs[m].params) := by
    rw [Nat.add_assoc, row_get hrw (by omega)]
    have h1 := row_get hrow (i := 1) (by decide)
    rw [h1]; rfl
  have hp0 : c.funcs[m].params = 0 := by
    rw [hm, Int.toNat_natCast] at p8
    simpa [hml] using p8
  rw [hp0] at hpar
  have im : ((m : Int) < (c.funcs.length : Int)) = True := by simp [hml]
  have g1 : decide ((c.places.length : Int) > 128) = false := decide_eq_false (by omega)
  have g2 : decide (c.mutexes < 0) = false := decide_eq_false (by omega)
  have g3 : decide (c.mutexes > 32) = false := decide_eq_false (by omega)
  have g4 : decide (c.atomics < 0) = false := decide_eq_false (by omega)
  have g5 : decide (c.atomics > 32) = false := decide_eq_false (by omega)
  have g6 : decide (c.mutexes + c.atomics + (c.chans.length : Int) > 32) = false := decide_eq_false (by omega)
  have g7 : decide ((c.funcs.length : Int) > 16) = false := decide_eq_false (by omega)
  have g8 : decide ((c.body.length : Int) > 8192) = false := decide_eq_false (by omega)
  simp (disch := first | omega | (simp only [hN] <;> omega) | fail) only [go_sem, simprocAttr, b0, l1, l2, l3, l4, g1, g2, g3, g4, g5, g6, g7, g8, hm]
  refine in_spec (by omega) (by omega) ?_
  simp (disch := first | omega | (simp only [hN] <;> omega) | fail) only [go_sem, simprocAttr, b0, hm, l1, l3, hg, hpar, im, Int.toNat_natCast, bne, beq_self_eq_true, Bool.not_true]
  clear g1 g2 g3 g4 g5 g6 g7 g8 im hpar hp0 hrow hlv p8 hm p7
  refine wp_loopx 0 (fun n a h' => ∃ i : Nat, n = c.places.length - i ∧ i ≤ c.places.length ∧ h' = H ∧ a.tm.get 1 = some (.ptr h.n 0) ∧ a.tm.get 81 = some pv ∧ a.tm.get 82 = some (.int .i64 (c.places.length : Int)) ∧ a.tm.get 83 = some (.int .i64 (i : Int)) ∧ a.df = [])
    (fun a h' => h' = H ∧ a.tm.get 1 = some (.ptr h.n 0) ∧ a.df = []) ?_ ?_ c.places.length ?_
  · rintro n ⟨t, df⟩ h2 ⟨i, hn, hi, rfl, k1, k81, k82, k83, hdf⟩
    simp only at k1 k81 k82 k83 hdf
    subst hdf
    by_cases hil : i < c.places.length
    · obtain ⟨b2, o2, c2, ex2, v2, md2, bs2, rfl, hb2, hg2, hr2⟩ := ints_at hC.places.1 hil
      have i1 : ((i : Int) < (c.places.length : Int)) = True := by simp [hil]
      have i2 : decide ((i : Int) < (c.places.length : Int)) = true := decide_eq_true (by omega)
      have iN : ((i : Int) + 1) = ((i + 1 : Nat) : Int) := by omega
      simp (disch := first | omega | (simp only [hN] <;> omega) | fail) only [go_sem, simprocAttr, k1, k81, k82, k83, i1, i2, hg2, hr2, Int.toNat_natCast, Nat.mul_one]
      refine rtyp14 (List.all_eq_true.1 hpl _ (List.getElem_mem hil)) ?_
      simp (disch := first | omega | (simp only [hN] <;> omega) | fail) only [go_sem, simprocAttr, k1, k81, k82, k83, iN]
      refine ⟨c.places.length - (i + 1), by omega, i + 1, rfl, hil, ?_⟩
      simp (disch := first | omega | (simp only [hN] <;> omega) | fail) only [go_sem, simprocAttr]
    · have i2 : decide ((i : Int) < (c.places.length : Int)) = false := decide_eq_false (by omega)
      simp (disch := first | omega | (simp only [hN] <;> omega) | fail) only [go_sem, simprocAttr, k1, k81, k82, k83, i2]
  · rintro ⟨t, df⟩ h2 ⟨rfl, k1, hdf⟩
    simp only at k1 hdf
    subst hdf
    simp (disch := first | omega | (simp only [hN] <;> omega) | fail) only [go_sem, simprocAttr, k1, b0, l2]
    refine wp_loopx 2 (fun n a h' => ∃ i : Nat, n = c.chans.length - i ∧ i ≤ c.chans.length ∧ Fr h2.n h2 h' ∧ a.tm.get 1 = some (.ptr h.n 0) ∧ a.tm.get 92 = some chv ∧ a.tm.get 93 = some (.int .i64 (c.chans.length : Int)) ∧ a.tm.get 94 = some (.int .i64 (i : Int)) ∧ a.df = [])
      (fun a h' => Fr h2.n h2 h' ∧ a.tm.get 1 = some (.ptr h.n 0) ∧ a.df = []) ?_ ?_ c.chans.length ?_
    · clear k1
      rintro n ⟨t, df⟩ h3 ⟨i, hn, hi, hf3, k1, k92, k93, k94, hdf⟩
      simp only at k1 k92 k93 k94 hdf
      subst hdf
      have hn3 := hf3.n; try simp only [hN] at hn3
      by_cases hil : i < c.chans.length
      · obtain ⟨b2, o2, cp2, ex2, ver2, md2, bs2, rfl, hb2, hg2, hrw2⟩ := hC.chans.inv (by omega)
        have hrow : row bs2 (o2 + i * 2) 2 = some (chC c.chans[i]) := by
          rw [row_sub hrw2 (by omega)]
          exact flat_row (f := chC) (fun _ => rfl) (List.getElem?_eq_getElem hil)
        have hg3 := (hf3.all hb2).trans hg2
        have i1 : ((i : Int) < (c.chans.length : Int)) = True := by simp [hil]
        have i2 : decide ((i : Int) < (c.chans.length : Int)) = true := decide_eq_true (by omega)
        have iN : ((i : Int) + 1) = ((i + 1 : Nat) : Int) := by omega
        have hok := List.all_eq_true.1 hch _ (List.getElem_mem hil)
        generalize c.chans[i] = x at *
        simp only [Bool.and_eq_true] at hok
        have hrm : 0 ≤ x.2 ∧ x.2 ≤ 8 := by simpa [inside] using hok.2
        have q1 : decide (x.2 < 0) = false := decide_eq_false (by omega)
        have q2 : decide (x.2 > 8) = false := decide_eq_false (by omega)
        simp only [chC] at hrow
        simp (disch := first | omega | (simp only [hN] <;> omega) | fail) only [go_sem, simprocAttr, k1, k92, k93, k94, i1, i2, hg3, hrow, Int.toNat_natCast]
        refine rtyp14 hok.1 ?_
        simp (disch := first | omega | (simp only [hN] <;> omega) | fail) only [go_sem, simprocAttr, k1, k92, k93, k94, q1, q2, iN]
        refine ⟨c.chans.length - (i + 1), by omega, i + 1, rfl, hil, ?_, ?_⟩
        · exact ⟨by first | omega | (simp only [hN]; omega), fun b hb hne => by (try simp only [hN] at hb hne); simp (disch := first | omega | (simp only [hN] <;> omega) | fail) only [go_sem, simprocAttr, hf3.old]⟩
        · simp (disch := first | omega | (simp only [hN] <;> omega) | fail) only [go_sem, simprocAttr]
      · have i2 : decide ((i : Int) < (c.chans.length : Int)) = false := decide_eq_false (by omega)
        simp (disch := first | omega | (simp only [hN] <;> omega) | fail) only [go_sem, simprocAttr, k1, k92, k93, k94, i2]
        exact hf3
    · clear k1
      rintro ⟨t, df⟩ h3 ⟨hf3, k1, hdf⟩
      simp only at k1 hdf
      subst hdf
      have hn3 := hf3.n; try simp only [hN] at hn3
      have c0 := (hf3.all (b := h.n) (by omega)).trans b0
      simp (disch := first | omega | (simp only [hN] <;> omega) | fail) only [go_sem, simprocAttr, k1, c0, l3]
      refine wp_loopx 4 (fun n a h' => ∃ i : Nat, n = c.funcs.length - i ∧ i ≤ c.funcs.length ∧ Fr h2.n h2 h' ∧ a.tm.get 1 = some (.ptr h.n 0) ∧ a.tm.get 114 = some (.slice b' o c.funcs.length cp ex) ∧ a.tm.get 115 = some (.int .i64 (c.funcs.length : Int)) ∧ a.tm.get 116 = some (.int .i64 (i : Int)) ∧ a.df = [])
        (fun a h' => Fr h2.n h2 h' ∧ a.tm.get 1 = some (.ptr h.n 0) ∧ a.df = []) ?_ ?_ c.funcs.length ?_
      · clear k1 c0 hf3 hn3
        rintro n ⟨t, df⟩ h4 ⟨i, hn, hi, hf4, k1, k114, k115, k116, hdf⟩
        simp only at k1 k114 k115 k116 hdf
        subst hdf
        have hn4 := hf4.n; try simp only [hN] at hn4
        have c0 := (hf4.all (b := h.n) (by omega)).trans b0
        by_cases hil : i < c.funcs.length
        · obtain ⟨lv, hrow, hlv⟩ := hE.at hil
          rw [← row_sub hrw (by omega)] at hrow
          have hg3 := (hf4.all hb).trans hg
          have i1 : ((i : Int) < (c.funcs.length : Int)) = True := by simp [hil]
          have i2 : decide ((i : Int) < (c.funcs.length : Int)) = true := decide_eq_true (by omega)
          have iN : ((i : Int) + 1) = ((i + 1 : Nat) : Int) := by omega
          have hst := ensOk_all hen _ (List.getElem_mem hil)
          obtain ⟨la, fi, hok⟩ := ensOk_mem hen _ (List.getElem_mem hil)
          have hz : i = 0 → c.funcs[i].start = 0 := by rintro rfl; exact ensOk_zero hil hen
          have hprev : 0 < i → ∃ st : Int, bs[o + (i - 1) * 3]? = some (.int .i64 st) ∧ st < c.funcs[i].start := by
            intro h0
            have h1 : i - 1 < c.funcs.length := by omega
            obtain ⟨lv2, hrow2, _⟩ := hE.at h1
            rw [← row_sub hrw (by omega)] at hrow2
            refine ⟨c.funcs[i - 1].start, ?_, ?_⟩
            · have := row_get hrow2 (i := 0) (by decide)
              rwa [Nat.add_zero] at this
            · have := ensOk_step (l := c.funcs) (i := i - 1) (by omega) hen
              have e : i - 1 + 1 = i := by omega
              simpa [e] using this
          generalize c.funcs[i] = f at *
          simp [enOk, inside] at hok
          have hlvf := hlv.1.flat
          have hlvl := hlv.1.len
          have hlvs := hlv.1.small
          simp only [enC] at hrow
          have q1 : decide (f.params < 0) = false := decide_eq_false (by omega)
          have q2 : decide (f.params > 4) = false := decide_eq_false (by omega)
          have q3 : decide (f.params > (f.locals.length : Int)) = false := decide_eq_false (by omega)
          have q4 : decide ((f.locals.length : Int) > 32) = false := decide_eq_false (by omega)
          simp (disch := first | omega | (simp only [hN] <;> omega) | fail) only [go_sem, simprocAttr, k1, k114, k115, k116, c0, l4, i1, i2, hg3, hrow, hlvf.1, hlvf.2, hlvl, Int.toNat_natCast]
          refine in_spec (by omega) (by omega) ?_
          have hbr : ∀ (P : Prop), (i = 0 → P) → (0 < i → P) → P := fun P a b => by
            by_cases e : i = 0
            · exact a e
            · exact b (by omega)
          refine hbr _ (fun h0 => ?_) fun h0 => ?_
          · have r1 : ((i : Int) == 0) = true := by simp [h0]
            have r2 : (f.start == 0) = true := by simp [hz h0]
            have r3 : decide ((i : Int) > 0) = false := decide_eq_false (by omega)
            simp (disch := first | omega | (simp only [hN] <;> omega) | fail) only [go_sem, simprocAttr, k1, k114, k115, k116, c0, hlvl, r1, r2, r3, q1, q2, q3, q4, bne, Bool.not_true, hlvf.1, hlvf.2]
            generalize hHH : AHeap.upd (AHeap.alloc h4 _) _ _ _ = HH
            have hfH : Fr h4.n h4 HH := by
              rw [← hHH]
              exact ((Fr.refl _ _).alloc _).updNew (Nat.le_refl _) _ _
            clear hHH
            have hfHn := hfH.n
            have hloc : ∀ x ∈ f.locals, typB x = true := by
              have := hok.2
              exact this
            have hlv5 := (hlv.fr hf4).fr hfH
            clear hok hprev hbr
            refine wp_loopx 6 (fun n a h' => ∃ j : Nat, n = f.locals.length - j ∧ j ≤ f.locals.length ∧ h' = HH ∧ a.tm.get 1 = some (.ptr h.n 0) ∧ a.tm.get 114 = some (.slice b' o c.funcs.length cp ex) ∧ a.tm.get 115 = some (.int .i64 (c.funcs.length : Int)) ∧ a.tm.get 116 = some (.int .i64 (i : Int)) ∧ a.tm.get 178 = some lv ∧ a.tm.get 179 = some (.int .i64 (f.locals.length : Int)) ∧ a.tm.get 180 = some (.int .i64 (j : Int)) ∧ a.df = [])
              (fun a h' => h' = HH ∧ a.tm.get 1 = some (.ptr h.n 0) ∧ a.tm.get 114 = some (.slice b' o c.funcs.length cp ex) ∧ a.tm.get 115 = some (.int .i64 (c.funcs.length : Int)) ∧ a.tm.get 116 = some (.int .i64 (i : Int)) ∧ a.df = []) ?_ ?_ f.locals.length ?_
            · clear k1 k114 k115 k116
              rintro n2 ⟨t, df⟩ h5 ⟨j, hn2', hj, rfl, k1, k114, k115, k116, k178, k179, k180, hdf⟩
              simp only at k1 k114 k115 k116 k178 k179 k180 hdf
              subst hdf
              by_cases hjl : j < f.locals.length
              · obtain ⟨b2, o2, c2, ex2, v2, md2, bs2, rfl, hb2, hg2, hr2⟩ := ints_at hlv5.1 hjl
                have j1 : ((j : Int) < (f.locals.length : Int)) = True := by simp [hjl]
                have j2 : decide ((j : Int) < (f.locals.length : Int)) = true := decide_eq_true (by omega)
                have jN : ((j : Int) + 1) = ((j + 1 : Nat) : Int) := by omega
                simp (disch := first | omega | (simp only [hN] <;> omega) | fail) only [go_sem, simprocAttr, k1, k114, k115, k116, k178, k179, k180, j1, j2, hg2, hr2, Int.toNat_natCast, Nat.mul_one]
                refine rtyp14 (hloc _ (List.getElem_mem hjl)) ?_
                simp (disch := first | omega | (simp only [hN] <;> omega) | fail) only [go_sem, simprocAttr, k1, k114, k115, k116, k178, k179, k180, jN]
                refine ⟨f.locals.length - (j + 1), by omega, j + 1, rfl, hjl, ?_⟩
                simp (disch := first | omega | (simp only [hN] <;> omega) | fail) only [go_sem, simprocAttr]
              · have j2 : decide ((j : Int) < (f.locals.length : Int)) = false := decide_eq_false (by omega)
                simp (disch := first | omega | (simp only [hN] <;> omega) | fail) only [go_sem, simprocAttr, k1, k114, k115, k116, k178, k179, k180, j2]
            · clear k1 k114 k115 k116
              rintro ⟨t, df⟩ h5 ⟨rfl, k1, k114, k115, k116, hdf⟩
              simp only at k1 k114 k115 k116 hdf
              subst hdf
              simp (disch := first | omega | (simp only [hN] <;> omega) | fail) only [go_sem, simprocAttr, k1, k114, k115, k116, iN]
              refine ⟨c.funcs.length - (i + 1), by omega, i + 1, rfl, hil, ?_, ?_⟩
              · exact hf4.trans (hfH.any (by omega))
              · simp (disch := first | omega | (simp only [hN] <;> omega) | fail) only [go_sem, simprocAttr]
            · simp (disch := first | omega | (simp only [hN] <;> omega) | fail) only [go_sem, simprocAttr, k1, k114, k115, k116, hlvl]
              exact ⟨0, rfl, Nat.zero_le _, rfl⟩
          · obtain ⟨st, hst2, hlt2⟩ := hprev h0
            have r1 : ((i : Int) == 0) = false := by simp; omega
            have r3 : decide ((i : Int) > 0) = true := decide_eq_true (by omega)
            have r4 : ((i : Int) - 1) = ((i - 1 : Nat) : Int) := by omega
            have r5 : (((i - 1 : Nat) : Int) < (c.funcs.length : Int)) = True := by simp; omega
            have r6 : decide (f.start ≤ st) = false := decide_eq_false (by omega)
            simp (disch := first | omega | (simp only [hN] <;> omega) | fail) only [go_sem, simprocAttr, k1, k114, k115, k116, c0, hlvl, r1, r3, r4, r5, r6, hst2, hg3, q1, q2, q3, q4, Int.toNat_natCast, Nat.add_zero, hlvf.1, hlvf.2]
            generalize hHH : AHeap.upd (AHeap.alloc h4 _) _ _ _ = HH
            have hfH : Fr h4.n h4 HH := by
              rw [← hHH]
              exact ((Fr.refl _ _).alloc _).updNew (Nat.le_refl _) _ _
            clear hHH
            have hfHn := hfH.n
            have hloc : ∀ x ∈ f.locals, typB x = true := by
              have := hok.2
              exact this
            have hlv5 := (hlv.fr hf4).fr hfH
            clear hok hprev hbr
            refine wp_loopx 6 (fun n a h' => ∃ j : Nat, n = f.locals.length - j ∧ j ≤ f.locals.length ∧ h' = HH ∧ a.tm.get 1 = some (.ptr h.n 0) ∧ a.tm.get 114 = some (.slice b' o c.funcs.length cp ex) ∧ a.tm.get 115 = some (.int .i64 (c.funcs.length : Int)) ∧ a.tm.get 116 = some (.int .i64 (i : Int)) ∧ a.tm.get 178 = some lv ∧ a.tm.get 179 = some (.int .i64 (f.locals.length : Int)) ∧ a.tm.get 180 = some (.int .i64 (j : Int)) ∧ a.df = [])
              (fun a h' => h' = HH ∧ a.tm.get 1 = some (.ptr h.n 0) ∧ a.tm.get 114 = some (.slice b' o c.funcs.length cp ex) ∧ a.tm.get 115 = some (.int .i64 (c.funcs.length : Int)) ∧ a.tm.get 116 = some (.int .i64 (i : Int)) ∧ a.df = []) ?_ ?_ f.locals.length ?_
            · clear k1 k114 k115 k116
              rintro n2 ⟨t, df⟩ h5 ⟨j, hn2', hj, rfl, k1, k114, k115, k116, k178, k179, k180, hdf⟩
              simp only at k1 k114 k115 k116 k178 k179 k180 hdf
              subst hdf
              by_cases hjl : j < f.locals.length
              · obtain ⟨b2, o2, c2, ex2, v2, md2, bs2, rfl, hb2, hg2, hr2⟩ := ints_at hlv5.1 hjl
                have j1 : ((j : Int) < (f.locals.length : Int)) = True := by simp [hjl]
                have j2 : decide ((j : Int) < (f.locals.length : Int)) = true := decide_eq_true (by omega)
                have jN : ((j : Int) + 1) = ((j + 1 : Nat) : Int) := by omega
                simp (disch := first | omega | (simp only [hN] <;> omega) | fail) only [go_sem, simprocAttr, k1, k114, k115, k116, k178, k179, k180, j1, j2, hg2, hr2, Int.toNat_natCast, Nat.mul_one]
                refine rtyp14 (hloc _ (List.getElem_mem hjl)) ?_
                simp (disch := first | omega | (simp only [hN] <;> omega) | fail) only [go_sem, simprocAttr, k1, k114, k115, k116, k178, k179, k180, jN]
                refine ⟨f.locals.length - (j + 1), by omega, j + 1, rfl, hjl, ?_⟩
                simp (disch := first | omega | (simp only [hN] <;> omega) | fail) only [go_sem, simprocAttr]
              · have j2 : decide ((j : Int) < (f.locals.length : Int)) = false := decide_eq_false (by omega)
                simp (disch := first | omega | (simp only [hN] <;> omega) | fail) only [go_sem, simprocAttr, k1, k114, k115, k116, k178, k179, k180, j2]
            · clear k1 k114 k115 k116
              rintro ⟨t, df⟩ h5 ⟨rfl, k1, k114, k115, k116, hdf⟩
              simp only at k1 k114 k115 k116 hdf
              subst hdf
              simp (disch := first | omega | (simp only [hN] <;> omega) | fail) only [go_sem, simprocAttr, k1, k114, k115, k116, iN]
              refine ⟨c.funcs.length - (i + 1), by omega, i + 1, rfl, hil, ?_, ?_⟩
              · exact hf4.trans (hfH.any (by omega))
              · simp (disch := first | omega | (simp only [hN] <;> omega) | fail) only [go_sem, simprocAttr]
            · simp (disch := first | omega | (simp only [hN] <;> omega) | fail) only [go_sem, simprocAttr, k1, k114, k115, k116, hlvl]
              exact ⟨0, rfl, Nat.zero_le _, rfl⟩
        · have i2 : decide ((i : Int) < (c.funcs.length : Int)) = false := decide_eq_false (by omega)
          simp (disch := first | omega | (simp only [hN] <;> omega) | fail) only [go_sem, simprocAttr, k1, k114, k115, k116, i2]
          exact hf4
      · clear k1 c0 hf3 hn3
        rintro ⟨t, df⟩ h4 ⟨hf4, k1, hdf⟩
        simp only at k1 hdf
        subst hdf
        have hn4 := hf4.n; try simp only [hN] at hn4
        have c0 := (hf4.all (b := h.n) (by omega)).trans b0
        simp (disch := first | omega | (simp only [hN] <;> omega) | fail) only [go_sem, simprocAttr, k1, c0, l4]
        refine wp_loopx 8 (fun n a h' => ∃ i : Nat, n = c.body.length - i ∧ i ≤ c.body.length ∧ Fr h2.n h2 h' ∧ a.tm.get 1 = some (.ptr h.n 0) ∧ a.tm.get 190 = some bv ∧ a.tm.get 191 = some (.int .i64 (c.body.length : Int)) ∧ a.tm.get 192 = some (.int .i64 (i : Int)) ∧ a.df = [])
          (fun a h' => Fr h2.n h2 h' ∧ a.df = []) ?_ ?_ c.body.length ?_
        · clear k1 c0 hf4 hn4
          rintro n ⟨t, df⟩ h5 ⟨i, hn, hi, hf5, k1, k190, k191, k192, hdf⟩
          simp only at k1 k190 k191 k192 hdf
          subst hdf
          have hn5 := hf5.n; try simp only [hN] at hn5
          have c0 := (hf5.all (b := h.n) (by omega)).trans b0
          by_cases hil : i < c.body.length
          · have hC5 := hC.fr hf5
            obtain ⟨b2, o2, cp2, ex2, ver2, md2, bs2, rfl, hb2, hg2, hrw2⟩ := hC.body.inv (by omega)
            have hrow : row bs2 (o2 + i * 5) 5 = some (insC c.body[i]) := by
              rw [row_sub hrw2 (by omega)]
              exact flat_row (f := insC) (fun _ => rfl) (List.getElem?_eq_getElem hil)
            have hg3 := (hf5.all hb2).trans hg2
            have i1 : ((i : Int) < (c.body.length : Int)) = True := by simp [hil]
            have i2 : decide ((i : Int) < (c.body.length : Int)) = true := decide_eq_true (by omega)
            have iN : ((i : Int) + 1) = ((i + 1 : Nat) : Int) := by omega
            have hok := List.all_eq_true.1 hins _ (List.getElem_mem hil)
            generalize c.body[i] = x at *
            simp only [insC] at hrow
            simp (disch := first | omega | (simp only [hN] <;> omega) | fail) only [go_sem, simprocAttr, k1, k190, k191, k192, c0, i1, i2, hg3, hrow, Int.toNat_natCast, f1.1, f1.2, f2.1, f2.2, f3.1, f3.2, f4.1, f4.2]
            refine rinstr_spec (x := x) (hC5.fr ⟨by first | omega | (simp only [hN]; omega), fun b hb hne => by (try simp only [hN] at hb hne); simp (disch := first | omega | (simp only [hN] <;> omega) | fail) only [go_sem, simprocAttr]⟩) hok ?_
            intro h6 hf6
            have hn6 := hf6.n; try simp only [hN] at hn6
            simp (disch := first | omega | (simp only [hN] <;> omega) | fail) only [go_sem, simprocAttr, k1, k190, k191, k192, iN]
            refine ⟨c.body.length - (i + 1), by omega, i + 1, rfl, hil, ?_, ?_⟩
            · exact ⟨by first | omega | (simp only [hN]; omega), fun b hb hne => by (try simp only [hN] at hb hne); simp (disch := first | omega | (simp only [hN] <;> omega) | fail) only [go_sem, simprocAttr, hf6.old, hf5.old]⟩
            · simp (disch := first | omega | (simp only [hN] <;> omega) | fail) only [go_sem, simprocAttr]
          · have i2 : decide ((i : Int) < (c.body.length : Int)) = false := decide_eq_false (by omega)
            simp (disch := first | omega | (simp only [hN] <;> omega) | fail) only [go_sem, simprocAttr, k1, k190, k191, k192, i2]
            exact hf5
        · rintro ⟨t, df⟩ h5 ⟨hf5, hdf⟩
          simp only at hdf
          subst hdf
          simp (disch := first | omega | (simp only [hN] <;> omega) | fail) only [go_sem, simprocAttr]
          exact hQ _ (hF0.trans (hf5.any (by omega)))
        · simp (disch := first | omega | (simp only [hN] <;> omega) | fail) only [go_sem, simprocAttr, k1]
          exact ⟨0, rfl, Nat.zero_le _, hf4, rfl⟩
      · simp (disch := first | omega | (simp only [hN] <;> omega) | fail) only [go_sem, simprocAttr, k1]
        exact ⟨0, rfl, Nat.zero_le _, hf3, rfl⟩
    · simp (disch := first | omega | (simp only [hN] <;> omega) | fail) only [go_sem, simprocAttr, k1, l2]
      exact ⟨0, rfl, Nat.zero_le _, Fr.refl _ _, rfl⟩
  · simp (disch := first | omega | (simp only [hN] <;> omega) | fail) only [go_sem, simprocAttr, l1]
    exact ⟨0, rfl, Nat.zero_le _, rfl⟩
end Go.Ev
