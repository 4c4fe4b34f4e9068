/- The statement on codes that are moved. -/
import Derived.Test.YtjfagfoekpnofaaDoorPP12
import Derived.Test.YtjfagfoekpnofaaDoorPuA
set_option linter.all false
set_option linter.unusedVariables false
set_option linter.unusedSimpArgs false
namespace Go.Ev
open Go
set_option maxRecDepth 100000
set_option maxHeartbeats 4000000

theorem same_spec {l m : List Int} {h : AHeap} {v w : AV} (hv : IntsV h l v) (hw : IntsV h m w) {Q : QR} (hQ : Q (.ret (.bool (decide (l = m)))) h) : WF F 9 [v, w] h Q := by
  refine WF.code F9 rfl ?_
  have h1 := hv.small
  have h2 := hw.small
  simp (disch := first | omega | (simp only [hN] <;> omega) | fail) only [go_sem, simprocAttr, hv.len, hw.len, hv.flat.1, hw.flat.1, hv.flat.2, hw.flat.2]
  by_cases he : l.length = m.length
  · simp (disch := first | omega | (simp only [hN] <;> omega) | fail) only [go_sem, simprocAttr, he, hv.len, hw.len]
    refine wp_loop (fun n a h' => ∃ i : Nat, n = m.length - i ∧ i ≤ m.length ∧ h' = h ∧ l.take i = m.take i ∧ a.tm.get 0 = some v ∧ a.tm.get 1 = some w ∧ a.tm.get 12 = some (.int .i64 (m.length : Int)) ∧ a.tm.get 13 = some (.int .i64 (i : Int)) ∧ a.df = []) ?_ m.length ?_
    · rintro n ⟨t, df⟩ h' ⟨i, hn, hi, rfl, ht, k0, k1, k12, k13, hdf⟩
      simp only at k0 k1 k12 k13 hdf
      subst hdf
      simp (disch := first | omega | (simp only [hN] <;> omega) | fail) only [go_sem, simprocAttr, k0, k1, k12, k13]
      (first | refine kA (fun hlt => ?_) (fun hlt => ?_) | refine kB (fun hlt => ?_) (fun hlt => ?_) | refine kC (fun hlt => ?_) (fun hlt => ?_) | refine kD (fun hlt => ?_) (fun hlt => ?_) | refine kE (fun hlt => ?_) (fun hlt => ?_) | refine kF (fun hlt => ?_) (fun hlt => ?_))
      · have hil : i < m.length := (by have := of_decide_eq_true hlt; omega)
        obtain ⟨b, o, c, ex, ver, md, bs, rfl, hb, hg, hr⟩ := ints_at hv (i := i) (by omega)
        obtain ⟨b', o', c', ex', ver', md', bs', rfl, hb', hg', hr'⟩ := ints_at hw (i := i) hil
        have i1 : ((i : Int) < (m.length : Int)) = True := by simp [hil]
        have i2 : ((i : Int) < (l.length : Int)) = True := by rw [he]; exact i1
        have iN : ((i : Int) + 1) = ((i + 1 : Nat) : Int) := by omega
        simp (disch := first | omega | (simp only [hN] <;> omega) | fail) only [go_sem, simprocAttr, k0, k1, k12, k13, Int.toNat_natCast, hg, hg', hr, hr', Nat.mul_one, i1, i2]
        have hl : l.take (i + 1) = l.take i ++ [l[i]] := by rw [List.take_add_one, List.getElem?_eq_getElem (by omega)]; rfl
        have hm : m.take (i + 1) = m.take i ++ [m[i]] := by rw [List.take_add_one, List.getElem?_eq_getElem hil]; rfl
        (first | refine kA (fun hx => ?_) (fun hx => ?_) | refine kB (fun hx => ?_) (fun hx => ?_) | refine kC (fun hx => ?_) (fun hx => ?_) | refine kD (fun hx => ?_) (fun hx => ?_) | refine kE (fun hx => ?_) (fun hx => ?_) | refine kF (fun hx => ?_) (fun hx => ?_))
        · have hx' : l[i] ≠ m[i] := by simpa using hx
          simp (disch := first | omega | (simp only [hN] <;> omega) | fail) only [go_sem, simprocAttr, k0, k1]
          refine useB hQ (decide_eq_false fun e => hx' ?_)
          subst e; rfl
        · have hx' : l[i] = m[i] := by simpa using hx
          simp (disch := first | omega | (simp only [hN] <;> omega) | fail) only [go_sem, simprocAttr, k0, k1, k12, k13, iN]
          refine ⟨m.length - (i + 1), by omega, i + 1, rfl, hil, by rw [hl, hm, ht, hx'], ?_⟩
          simp (disch := first | omega | (simp only [hN] <;> omega) | fail) only [go_sem, simprocAttr]
      · have hil : i = m.length := by have := of_decide_eq_false hlt; omega
        simp (disch := first | omega | (simp only [hN] <;> omega) | fail) only [go_sem, simprocAttr, k0, k1]
        subst hil
        rw [List.take_of_length_le (by omega), List.take_of_length_le (by omega)] at ht
        exact useB hQ (by simp [ht])
    · simp (disch := first | omega | (simp only [hN] <;> omega) | fail) only [go_sem, simprocAttr, he, hv.len]
      refine ⟨0, rfl, Nat.zero_le _, rfl, ?_⟩
      simp (disch := first | omega | (simp only [hN] <;> omega) | fail) only [go_sem, simprocAttr]
  · have i1 : ((l.length : Int) != (m.length : Int)) = true := by simp; omega
    simp (disch := first | omega | (simp only [hN] <;> omega) | fail) only [go_sem, simprocAttr, i1]
    refine useB hQ (decide_eq_false fun e => he ?_)
    rw [e]
theorem long_spec {h : AHeap} {c : Cd} {pv chv fv bv : AV} (hC : CdV h c pv chv fv bv) {Q : QR} (hQ : ∀ h' b, Fr h.n h h' → Q (.ret (.bool b)) h') : WF F 7 [.agg (cdC c pv chv fv bv)] h Q := by
  refine WF.code F7 rfl ?_
  obtain ⟨f1, f2, f3, f4⟩ := hC.flats
  obtain ⟨l1, l2, l3, l4⟩ := hC.lens
  obtain ⟨css, hE, hfs⟩ := hC.funcs
  have hsm := hfs.small
  simp (disch := first | omega | (simp only [hN] <;> omega) | fail) only [go_sem, simprocAttr, cdC, f1.1, f1.2, f2.1, f2.2, f3.1, f3.2, f4.1, f4.2, l1, l2, l3, l4]
  have hF0 : Fr h.n h (h.alloc (.cells .own 0 (cdC c pv chv fv bv))) := (Fr.refl _ _).alloc _
  simp only [cdC] at hF0
  generalize hHH : AHeap.alloc h _ = H at hF0 ⊢
  clear hHH
  have hHn := hF0.n
  refine wp_loopx 0 (fun n a h' => ∃ (i : Nat) (x : Int), n = c.funcs.length - i ∧ i ≤ c.funcs.length ∧ Fr h.n h h' ∧ a.tm.get 3 = some (.int .i64 x) ∧ a.tm.get 18 = some fv ∧ a.tm.get 19 = some (.int .i64 (c.funcs.length : Int)) ∧ a.tm.get 20 = some (.int .i64 (i : Int)) ∧ a.df = [])
    (fun a h' => ∃ x : Int, Fr h.n h h' ∧ a.tm.get 3 = some (.int .i64 x) ∧ a.df = []) ?_ ?_ c.funcs.length ?_
  · rintro n ⟨t, df⟩ h2 ⟨i, x, hn, hi, hf, k3, k18, k19, k20, hdf⟩
    simp only at k3 k18 k19 k20 hdf
    subst hdf
    have hn2 := hf.n; try simp only [hN] at hn2
    by_cases hil : i < c.funcs.length
    · obtain ⟨b', o, cp, ex, ver', md, bs, rfl, hb, hg, hrw⟩ := hfs.inv (by omega)
      obtain ⟨lv, hrow, hlv⟩ := hE.at hil
      rw [← row_sub hrw (by omega)] at hrow
      have hg3 := (hf.all hb).trans hg
      have i1 : ((i : Int) < (c.funcs.length : Int)) = True := by simp [hil]
      have i2 : decide ((i : Int) < (c.funcs.length : Int)) = true := decide_eq_true (by omega)
      have iN : ((i : Int) + 1) = ((i + 1 : Nat) : Int) := by omega
      have hlvf := hlv.1.flat
      have hlvl := hlv.1.len
      simp only [enC] at hrow
      simp (disch := first | omega | (simp only [hN] <;> omega) | fail) only [go_sem, simprocAttr, k3, k18, k19, k20, i1, i2, hg3, hrow, hlvf.1, hlvf.2, hlvl, Int.toNat_natCast]
      generalize wr .i64 (x + wr .i64 (1 + (c.funcs[i].locals.length : Int))) = y
      by_cases hy : y > 3000
      · simp (disch := first | omega | (simp only [hN] <;> omega) | fail) only [go_sem, simprocAttr, decide_eq_true hy, k3, k18, k19, k20]
        refine hQ _ _ ?_
        exact ⟨by first | omega | (simp only [hN]; omega), fun b hb hne => by (try simp only [hN] at hb hne); simp (disch := first | omega | (simp only [hN] <;> omega) | fail) only [go_sem, simprocAttr, hf.old]⟩
      · simp (disch := first | omega | (simp only [hN] <;> omega) | fail) only [go_sem, simprocAttr, decide_eq_false hy, k3, k18, k19, k20, iN]
        refine ⟨c.funcs.length - (i + 1), by omega, i + 1, y, rfl, hil, ?_, rfl, ?_⟩
        · exact ⟨by first | omega | (simp only [hN]; omega), fun b hb hne => by (try simp only [hN] at hb hne); simp (disch := first | omega | (simp only [hN] <;> omega) | fail) only [go_sem, simprocAttr, hf.old]⟩
        · simp (disch := first | omega | (simp only [hN] <;> omega) | fail) only [go_sem, simprocAttr]
    · have i2 : decide ((i : Int) < (c.funcs.length : Int)) = false := decide_eq_false (by omega)
      simp (disch := first | omega | (simp only [hN] <;> omega) | fail) only [go_sem, simprocAttr, k3, k18, k19, k20, i2]
      exact ⟨x, hf, rfl⟩
  · rintro ⟨t, df⟩ h2 ⟨x, hf, k3, hdf⟩
    simp only at k3 hdf
    subst hdf
    simp (disch := first | omega | (simp only [hN] <;> omega) | fail) only [go_sem, simprocAttr, k3]
    exact hQ _ _ hf
  · simp (disch := first | omega | (simp only [hN] <;> omega) | fail) only [go_sem, simprocAttr, l3]
    exact ⟨0, _, rfl, Nat.zero_le _, hF0, rfl, rfl⟩
/-- A slice of some elements that grows at its end. -/
def Slx (es lo : Nat) (h : AHeap) (v : AV) (n : Nat) (cs : List AV) : Prop :=
  cs.length = n * es ∧ 0 < n ∧ ∃ b ver ex, v = .slice b 0 n n ex ∧ lo ≤ b ∧ b < h.n ∧ h.get b = some ⟨ver, .cells .own es cs⟩
theorem Slx.flat {es lo n : Nat} {h : AHeap} {v : AV} {cs : List AV} (s : Slx es lo h v n cs) : v.flat = true ∧ v.cells = [v] := by
  obtain ⟨_, _, b, ver, ex, rfl, _⟩ := s; exact ⟨rfl, rfl⟩
theorem Slx.slv {es lo n : Nat} {h : AHeap} {v : AV} {cs : List AV} (s : Slx es lo h v n cs) (hn : n < 2 ^ 61) : SlV h es n cs v := by
  obtain ⟨hl, h0, b, ver, ex, rfl, h1, h2, h3⟩ := s
  exact slv_row h0 hn hl h2 h3
theorem Slx.fr {es lo r n : Nat} {h h' : AHeap} {v : AV} {cs : List AV} (s : Slx es lo h v n cs) (f : Fr r h h') (hr : r < lo ∨ h.n ≤ r) : Slx es lo h' v n cs := by
  obtain ⟨hl, h0, b, ver, ex, e, h1, h2, h3⟩ := s
  exact ⟨hl, h0, b, ver, ex, e, h1, Nat.lt_of_lt_of_le h2 f.n, by rw [f.old b h2 (by omega)]; exact h3⟩
theorem Slx.append {es lo n k bytes : Nat} {h : AHeap} {v : AV} {cs new : List AV} (s : Slx es lo h v n cs) (hk : 0 < k) (hlo : lo ≤ h.n) (hnew : new.length = k * es) (hflat : allFlat new = true) (hroom : (n + k) * bytes ≤ room) (hn : n + k ≤ room) :
    ∃ v' h', appendA h es bytes v k new = some (v', h') ∧ Slx es lo h' v' (n + k) (cs ++ new) ∧ h'.n = h.n + 1 ∧ ∀ b, b < lo → h'.get b = h.get b := by
  have k0 : ¬ k = 0 := by omega
  obtain ⟨hl, hpos, b, ver, ex, rfl, h1, h2, h3⟩ := s
  have hrow : row cs 0 (n * es) = some cs := row_all hl
  have e1 : ¬ n + k ≤ n := by omega
  have e2 : ¬ n = 0 := by omega
  cases ex with
  | true =>
    refine ⟨.slice h.n 0 (n + k) (n + k) false, h.alloc (.cells .own es (cs ++ new)), ?_, ⟨by rw [List.length_append, hl, hnew, Nat.add_mul], by omega, h.n, 0, false, rfl, by omega, by rw [AHeap.alloc_n]; omega, by rw [AHeap.get_alloc, if_pos rfl]⟩, rfl, fun b' hb => by rw [AHeap.get_alloc, if_neg (by omega)]⟩
    simp only [appendA, h3, hnew, hflat, hrow, beq_nat, ble_nat, decide_true, Bool.not_true, Bool.or_false, cond_false, k0, decide_false, cond_true, e1, decide_eq_true hroom, decide_eq_true hn, Bool.and_true]
  | false =>
    refine ⟨.slice h.n 0 (n + k) (n + k) false, (h.upd b (ver + 1) .dead).alloc (.cells .own es (cs ++ new)), ?_, ⟨by rw [List.length_append, hl, hnew, Nat.add_mul], by omega, h.n, 0, false, rfl, by omega, by rw [AHeap.alloc_n, AHeap.upd_n]; omega, by rw [AHeap.get_alloc, AHeap.upd_n, if_pos rfl]⟩, rfl, fun b' hb => by rw [AHeap.get_alloc, AHeap.upd_n, if_neg (by omega), AHeap.get_upd, if_neg (by omega)]⟩
    simp only [appendA, h3, hnew, hflat, hrow, beq_nat, ble_nat, decide_true, Bool.not_true, Bool.or_false, cond_false, k0, decide_false, cond_true, e1, e2, decide_eq_true hroom, decide_eq_true hn, Bool.and_true]
theorem app_exactG {h : AHeap} {es bytes b ver n : Nat} {new : List AV} (hn : new.length = n * es) (hf : allFlat new = true) (h0 : 0 < n) (hr1 : n ≤ room) (hr2 : n * bytes ≤ room) (hg : h.get b = some ⟨ver, .cells .own es []⟩) : appendA h es bytes (.slice b 0 0 0 true) n new = some (.slice h.n 0 n n false, h.alloc (.cells .own es new)) := by
  have e1 : ¬ n = 0 := by omega
  have e2 : ¬ n ≤ 0 := by omega
  have r3 : row [] 0 0 = some [] := rfl
  simp only [appendA, beq_nat, ble_nat, hn, decide_true, hf, Bool.not_true, Bool.or_false, cond_false, e1, decide_false, hg, Nat.zero_add, e2, hr1, hr2, Bool.and_true, cond_true, Nat.zero_mul, r3, List.nil_append]
theorem EnsV.allFlat {h : AHeap} : {l : List En} → {css : List AV} → EnsV h l css → Go.Ev.allFlat css = true
  | _, _, .nil => rfl
  | _, _, .cons a b => by
    have := a.1.flat.1
    have h2 := b.allFlat
    simp only [Go.Ev.allFlat, enC, List.cons_append, List.nil_append, List.all_cons, this] at h2 ⊢
    rw [h2]; rfl
theorem EnsV.setSt {h : AHeap} : {l : List En} → {css : List AV} → EnsV h l css → ∀ {i : Nat} (hi : i < l.length) (s : Int), EnsV h (l.set i { l[i] with start := s }) (css.set (i * 3) (.int .i64 s))
  | _, _, .nil, i, hi, _ => absurd hi (Nat.not_lt_zero _)
  | _, _, .cons (f := f) (lv := lv) (css := css) a b, 0, _, s => EnsV.cons (f := { f with start := s }) (lv := lv) a b
  | _, _, .cons (f := f) (l := l) (lv := lv) (css := css) a b, i + 1, hi, s => by
    have ih := b.setSt (i := i) (by simpa using hi) s
    have e : (enC f lv ++ css).set ((i + 1) * 3) (.int .i64 s) = enC f lv ++ css.set (i * 3) (.int .i64 s) := by
      rw [List.set_append_right _ _ (by simp [enC]; omega)]
      congr 2
      simp [enC]; omega
    rw [e]
    exact EnsV.cons a ih
/-- The first functions moved, the others not. -/
def part (l : List En) (i : Nat) : List En := (mvF l).take i ++ l.drop i
theorem part_len {l : List En} {i : Nat} (h : i ≤ l.length) : (part l i).length = l.length := by
  simp only [part, List.length_append, List.length_take, List.length_drop, mvF_len]; omega
theorem part_at {l : List En} {i : Nat} (h : i < l.length) : (part l i)[i]? = some l[i] := by
  simp only [part]
  rw [List.getElem?_append_right (by rw [List.length_take]; omega), List.getElem?_drop]
  have : i + (i - ((mvF l).take i).length) = i := by simp [mvF_len]; omega
  rw [this, List.getElem?_eq_getElem h]
theorem part_zero {l : List En} : part l 0 = l := by simp [part]
theorem part_one {l : List En} : part l 1 = l := by cases l <;> simp [part, mvF]
theorem part_all {l : List En} : part l l.length = mvF l := by
  simp only [part, List.drop_length, List.append_nil]
  exact List.take_of_length_le (by rw [mvF_len]; exact Nat.le_refl _)
theorem part_set {l : List En} {i : Nat} (h0 : 0 < i) (h : i < l.length) : (part l i).set i (sh l[i]) = part l (i + 1) := by
  have hm : (mvF l)[i]? = some (sh l[i]) := by
    cases l with
    | nil => simp at h
    | cons f l =>
      cases i with
      | zero => omega
      | succ i =>
        have : i < l.length := by simpa using h
        simp [mvF, this]
  have hlen : ((mvF l).take i).length = i := by simp [mvF_len]; omega
  simp only [part]
  rw [List.set_append_right _ _ (by omega), hlen, Nat.sub_self, List.drop_eq_getElem_cons h, List.set_cons_zero, List.take_add_one, hm]
  simp
theorem StksV.fr {h h' : AHeap} {ls : List (List Int)} {v : AV} (s : StksV h ls v) (f : Fr h.n h h') : StksV h' ls v := by
  obtain ⟨svs, h1, h2⟩ := s
  exact ⟨svs, h1.fr f, fun i l w a b => (h2 i l w a b).fr f⟩
theorem moves_law {h : AHeap} {c : Cd} {pv chv fv bv : AV} (hG : GH h) (hC : CdV h c pv chv fv bv) : WF F 3 [.agg (cdC c pv chv fv bv)] h (fun r _ => r = .ret (.bool true)) := by
  refine WF.code F3 rfl ?_
  obtain ⟨f1, f2, f3, f4⟩ := hC.flats
  obtain ⟨l1, l2, l3, l4⟩ := hC.lens
  obtain ⟨s1, s2, s3, s4⟩ := hC.smalls
  have hGn := hG.n
  simp (disch := first | omega | (simp only [hN] <;> omega) | fail) only [go_sem, simprocAttr, cdC, f1.1, f1.2, f2.1, f2.2, f3.1, f3.2, f4.1, f4.2]
  have hF0 : Fr h.n h (h.alloc (.cells .own 0 (cdC c pv chv fv bv))) := (Fr.refl _ _).alloc _
  have hG0 := hG.alloc (.cells .own 0 (cdC c pv chv fv bv))
  simp only [cdC] at hF0 hG0
  generalize hHH : AHeap.alloc h _ = H at hF0 hG0 ⊢
  have hHn : H.n = h.n + 1 := by rw [← hHH]; simp (disch := first | omega | (simp only [hN] <;> omega) | fail) only [go_sem, simprocAttr]
  have b0 : H.get h.n = some ⟨0, .cells .own 0 (cdC c pv chv fv bv)⟩ := by rw [← hHH]; simp (disch := first | omega | (simp only [hN] <;> omega) | fail) only [go_sem, simprocAttr, cdC]
  simp only [cdC] at b0
  clear hHH
  refine alive_spec hG0 ?_
  intro h1 hf1
  have hn1 := hf1.n; try simp only [hN] at hn1
  have c1 := (hf1.all (b := h.n) (by omega)).trans b0
  have hF1 := hF0.trans (hf1.any (by omega))
  simp (disch := first | omega | (simp only [hN] <;> omega) | fail) only [go_sem, simprocAttr, c1, f1.1, f1.2, f2.1, f2.2, f3.1, f3.2, f4.1, f4.2]
  refine long_spec (hC.fr hF1) ?_
  intro h2 lb hf2
  have hn2 := hf2.n; try simp only [hN] at hn2
  have c2 := (hf2.all (b := h.n) (by omega)).trans c1
  have hF2 := hF1.trans (hf2.any (by omega))
  cases lb with
  | true => simp (disch := first | omega | (simp only [hN] <;> omega) | fail) only [go_sem, simprocAttr]
  | false =>
    simp (disch := first | omega | (simp only [hN] <;> omega) | fail) only [go_sem, simprocAttr, c2, f1.1, f1.2, f2.1, f2.2, f3.1, f3.2, f4.1, f4.2]
    refine stacks_spec (hF2.gh hGn hG) (hC.fr hF2) ?_
    cases hst : stacksP c with
    | none =>
      intro h3 hf3
      simp (disch := first | omega | (simp only [hN] <;> omega) | fail) only [go_sem, simprocAttr]
    | some ls =>
      intro h3 v1 hf3 hv1
      have hn3 := hf3.n; try simp only [hN] at hn3
      have c3 := (hf3.all (b := h.n) (by omega)).trans c2
      have hF3 := hF2.trans (hf3.any (by omega))
      by_cases hbig : c.body.length ≥ 8192
      · have g1 : decide ((c.body.length : Int) ≥ 8192) = true := decide_eq_true (by omega)
        simp (disch := first | omega | (simp only [hN] <;> omega) | fail) only [go_sem, simprocAttr, c3, l4, g1, eqT_nil, Bool.not_true]
      · have g1 : decide ((c.body.length : Int) ≥ 8192) = false := decide_eq_false (by omega)
        have hst2 := mv_stacks (by omega) hst
        have hfm : formB c = true := by
          unfold stacksP at hst
          split at hst
          · assumption
          · cases hst
        have hfm2 := mv_form hfm (by omega)
        simp (disch := first | omega | (simp only [hN] <;> omega) | fail) only [go_sem, simprocAttr, c3, l4, g1, eqT_nil, Bool.not_true, f1.1, f1.2, f2.1, f2.2, f3.1, f3.2, f4.1, f4.2]
        generalize hHH : AHeap.upd (AHeap.alloc (AHeap.upd (AHeap.alloc h3 _) _ _ _) _) _ _ _ = H4
        have hn4 : H4.n = h3.n + 2 := by rw [← hHH]; simp (disch := first | omega | (simp only [hN] <;> omega) | fail) only [go_sem, simprocAttr]
        have d4 : H4.get h3.n = some ⟨2, .cells .own 0 [pv, .int .i64 c.mutexes, .int .i64 c.atomics, chv, fv, .int .i64 c.main, .slice (h3.n + 1) 0 1 1 true]⟩ := by rw [← hHH]; simp (disch := first | omega | (simp only [hN] <;> omega) | fail) only [go_sem, simprocAttr]
        have t4 : H4.get (h3.n + 1) = some ⟨0, .cells .own 5 (insC turnI)⟩ := by rw [← hHH]; simp (disch := first | omega | (simp only [hN] <;> omega) | fail) only [go_sem, simprocAttr, insC, turnI]
        have o4 : ∀ b, b < h3.n → H4.get b = h3.get b := fun b hb => by rw [← hHH]; simp (disch := first | omega | (simp only [hN] <;> omega) | fail) only [go_sem, simprocAttr]
        have hs4 : Slx 5 (h3.n + 1) H4 (.slice (h3.n + 1) 0 1 1 true) 1 (insC turnI) := ⟨rfl, by decide, h3.n + 1, 0, true, rfl, Nat.le_refl _, by omega, t4⟩
        clear hHH t4
        obtain ⟨D, hD⟩ : ∃ D, D = h3.n := ⟨_, rfl⟩
        rw [← hD] at d4 o4 hs4 hn4 ⊢
        obtain ⟨hI, hsm, hFs⟩ := form_facts hfm
        have hDn : h.n < D := by omega
        have hold : ∀ h' : AHeap, (∀ b, b < D → h'.get b = h3.get b) → D ≤ h'.n → Fr h.n h h' := fun h' ho hn => ⟨by omega, fun b hb _ => (ho b (by omega)).trans (hF3.all hb)⟩
        refine wp_loopx 0 (fun m a h' => ∃ (i : Nat) (v : AV) (ver : Nat), m = c.body.length - i ∧ i ≤ c.body.length ∧ D + 2 ≤ h'.n ∧ (∀ b, b < D → h'.get b = h3.get b) ∧ h'.get D = some ⟨ver, .cells .own 0 [pv, .int .i64 c.mutexes, .int .i64 c.atomics, chv, fv, .int .i64 c.main, v]⟩ ∧ Slx 5 (D + 1) h' v (i + 1) (insC turnI ++ ((c.body.take i).map mvI).flatMap insC) ∧ a.tm.get 1 = some (.ptr h.n 0) ∧ a.tm.get 3 = some v1 ∧ a.tm.get 5 = some (.ptr D 0) ∧ a.tm.get 33 = some bv ∧ a.tm.get 34 = some (.int .i64 (c.body.length : Int)) ∧ a.tm.get 35 = some (.int .i64 (i : Int)) ∧ a.df = [])
          (fun a h' => ∃ (v : AV) (ver : Nat), D + 2 ≤ h'.n ∧ (∀ b, b < D → h'.get b = h3.get b) ∧ h'.get D = some ⟨ver, .cells .own 0 [pv, .int .i64 c.mutexes, .int .i64 c.atomics, chv, fv, .int .i64 c.main, v]⟩ ∧ Slx 5 (D + 1) h' v (c.body.length + 1) ((mv c).body.flatMap insC) ∧ a.tm.get 1 = some (.ptr h.n 0) ∧ a.tm.get 3 = some v1 ∧ a.tm.get 5 = some (.ptr D 0) ∧ a.df = []) ?_ ?_ c.body.length ?_
        · rintro m ⟨tt, df⟩ h5 ⟨i, v, ver, hm, hi, hB, ho, hd, hs, k1, k3, k5, k33, k34, k35, hdf⟩
          simp only at k1 k3 k5 k33 k34 k35 hdf
          subst hdf
          by_cases hil : i < c.body.length
          · obtain ⟨b2, o2, cp2, ex2, ver2, md2, bs2, rfl, hb2, hg2, hrw2⟩ := hC.body.inv (by omega)
            have hrow : row bs2 (o2 + i * 5) 5 = some (insC c.body[i]) := by
              rw [row_sub hrw2 (by omega)]
              exact flat_row (f := insC) (fun _ => rfl) (List.getElem?_eq_getElem hil)
            have hg3 := ((hold h5 ho (by omega)).all hb2).trans hg2
            have i1 : ((i : Int) < (c.body.length : Int)) = True := by simp [hil]
            have i2 : decide ((i : Int) < (c.body.length : Int)) = true := decide_eq_true (by omega)
            have iN : ((i : Int) + 1) = ((i + 1 : Nat) : Int) := by omega
            have hIx := hI _ (List.getElem_mem hil)
            have htk : (c.body.take (i + 1)).map mvI = (c.body.take i).map mvI ++ [mvI c.body[i]] := by
              rw [List.take_add_one, List.getElem?_eq_getElem hil, List.map_append]; rfl
            generalize c.body[i] = x at *
            simp only [insC] at hrow
            simp (disch := first | omega | (simp only [hN] <;> omega) | fail) only [go_sem, simprocAttr, k1, k3, k5, k33, k34, k35, i1, i2, hg3, hrow, Int.toNat_natCast]
            refine want_cut (fun a h' => ∃ vx, h'.get h5.n = some ⟨vx, .cells .own 0 (insC (mvI x))⟩ ∧ h'.n = h5.n + 1 ∧ (∀ b, b < h5.n → h'.get b = h5.get b) ∧ a.tm.get 1 = some (.ptr h.n 0) ∧ a.tm.get 3 = some v1 ∧ a.tm.get 5 = some (.ptr D 0) ∧ a.tm.get 7 = some (.ptr h5.n 0) ∧ a.tm.get 33 = some (.slice b2 o2 c.body.length cp2 ex2) ∧ a.tm.get 34 = some (.int .i64 (c.body.length : Int)) ∧ a.tm.get 35 = some (.int .i64 (i : Int)) ∧ a.df = []) ?_ ?_
            · by_cases j1 : 12 ≤ x.op
              · have q1 : decide (x.op ≥ 12) = true := decide_eq_true j1
                by_cases j2 : x.op ≤ 14
                · have q2 : decide (x.op ≤ 14) = true := decide_eq_true j2
                  have ha : 0 ≤ x.a ∧ x.a < c.body.length := by
                    rcases (by omega : x.op = 12 ∨ x.op = 13 ∨ x.op = 14) with e | e | e <;> simp [insB, inside, e] at hIx <;> omega
                  simp (disch := first | omega | (simp only [hN] <;> omega) | fail) only [go_sem, simprocAttr, q1, q2, k1, k3, k5, k33, k34, k35]
                  refine ⟨2, ?_, fun b hb => ?_⟩
                  · rw [show mvI x = { x with a := x.a + 1 } from if_pos ⟨j1, j2⟩]; rfl
                  · simp (disch := first | omega | (simp only [hN] <;> omega) | fail) only [go_sem, simprocAttr]
                · have q2 : decide (x.op ≤ 14) = false := decide_eq_false j2
                  simp (disch := first | omega | (simp only [hN] <;> omega) | fail) only [go_sem, simprocAttr, q1, q2, k1, k3, k5, k33, k34, k35]
                  refine ⟨1, ?_, fun b hb => ?_⟩
                  · rw [show mvI x = x from if_neg (fun h => j2 h.2)]; rfl
                  · simp (disch := first | omega | (simp only [hN] <;> omega) | fail) only [go_sem, simprocAttr]
              · have q1 : decide (x.op ≥ 12) = false := decide_eq_false j1
                simp (disch := first | omega | (simp only [hN] <;> omega) | fail) only [go_sem, simprocAttr, q1, k1, k3, k5, k33, k34, k35]
                refine ⟨1, ?_, fun b hb => ?_⟩
                · rw [show mvI x = x from if_neg (fun h => j1 h.1)]; rfl
                · simp (disch := first | omega | (simp only [hN] <;> omega) | fail) only [go_sem, simprocAttr]
            clear k1 k3 k5 k33 k34 k35
            rintro ⟨tt, df⟩ h6 ⟨vx, hx6, hn6, ho6, k1, k3, k5, k7, k33, k34, k35, hdf⟩
            simp only at k1 k3 k5 k7 k33 k34 k35 hdf
            subst hdf
            have hd6 := (ho6 D (by omega)).trans hd
            have hF6 : Fr h5.n h5 (h6.alloc (.cells .own 5 (insC (mvI x)))) := ⟨by simp only [hN]; omega, fun b hb _ => by simp (disch := first | omega | (simp only [hN] <;> omega) | fail) only [go_sem, simprocAttr, ho6]⟩
            have hs6 := hs.fr hF6 (.inr (Nat.le_refl _))
            have hl5 : (insC (mvI x)).length = 1 * 5 := rfl
            obtain ⟨v7, h7, happ, hs7, hn7, ho7⟩ := hs6.append (k := 1) (bytes := 40) (new := insC (mvI x)) (by decide) (by simp only [hN]; omega) hl5 rfl (by simp only [room]; omega) (by simp only [room]; omega)
            have hsf := hs6.flat
            have hsf7 := hs7.flat
            simp only [hN] at hn7
            have hd7 : h7.get D = some ⟨ver, .cells .own 0 [pv, .int .i64 c.mutexes, .int .i64 c.atomics, chv, fv, .int .i64 c.main, v]⟩ := by rw [ho7 _ (by omega)]; simp (disch := first | omega | (simp only [hN] <;> omega) | fail) only [go_sem, simprocAttr, hd6]
            simp only [insC] at happ hx6
            simp (disch := first | omega | (simp only [hN] <;> omega) | fail) only [go_sem, simprocAttr, k1, k3, k5, k7, k33, k34, k35, hx6, hd6, hd7, happ, hsf.1, hsf.2, hsf7.1, hsf7.2, iN]
            refine ⟨c.body.length - (i + 1), by omega, i + 1, v7, ver + 1, rfl, hil, by omega, fun b hb => ?_, rfl, ?_, rfl⟩
            · have : b ≠ D := by omega
              simp (disch := first | omega | (simp only [hN] <;> omega) | fail) only [go_sem, simprocAttr, ho7 b (show b < D + 1 by omega), ho6]
              exact ho b hb
            · rw [htk, List.flatMap_append, ← List.append_assoc]
              have e1 : [mvI x].flatMap insC = insC (mvI x) := by simp
              rw [e1]
              exact hs7.fr (Fr.upd _ _ _) (.inl (by omega))
          · have i2 : decide ((i : Int) < (c.body.length : Int)) = false := decide_eq_false (by omega)
            simp (disch := first | omega | (simp only [hN] <;> omega) | fail) only [go_sem, simprocAttr, k1, k3, k5, k33, k34, k35, i2]
            obtain rfl : i = c.body.length := by omega
            rw [List.take_length] at hs
            exact ⟨v, ver, hB, ho, hd, hs⟩
        · rintro ⟨tt, df⟩ h5 ⟨v, ver, hB, ho, hd, hs, k1, k3, k5, hdf⟩
          simp only at k1 k3 k5 hdf
          subst hdf
          have hF5 := hold h5 ho (by omega)
          have c5 := (ho h.n (by omega)).trans c3
          obtain ⟨css, hE, hfs⟩ := hC.funcs
          have hfpos : 0 < c.funcs.length := by
            simp only [formB, shapeB, Bool.and_eq_true] at hfm
            have := hfm.1.1.1.1
            simp [headOk, inside] at this
            omega
          obtain ⟨b', o, cp, ex, ver', md, bs, rfl, hb, hg, hrw⟩ := hfs.inv hfpos
          have hg5 := (hF5.all hb).trans hg
          simp (disch := first | omega | (simp only [hN] <;> omega) | fail) only [go_sem, simprocAttr, k1, k3, k5, c5, hd, hg5, hrw, decide_eq_false (show ¬ c.funcs.length = 0 by omega)]
          have hf16 : c.funcs.length ≤ 16 := by
            simp only [formB, shapeB, Bool.and_eq_true] at hfm
            have := hfm.1.1.1.1
            simp [headOk, inside] at this
            omega
          have happ := app_exactG (h := h5.alloc (.cells .own 3 [])) (es := 3) (bytes := 40) (b := h5.n) (ver := 0) hE.len hE.allFlat hfpos (by simp only [room]; omega) (by simp only [room]; omega) (by simp (disch := first | omega | (simp only [hN] <;> omega) | fail) only [go_sem, simprocAttr])
          simp (disch := first | omega | (simp only [hN] <;> omega) | fail) only [go_sem, simprocAttr, k1, k3, k5, hd, happ]
          generalize hXX : AHeap.upd (AHeap.alloc (AHeap.alloc h5 _) _) _ _ _ = X
          have hXn : X.n = h5.n + 2 := by rw [← hXX]; simp (disch := first | omega | (simp only [hN] <;> omega) | fail) only [go_sem, simprocAttr]
          have hXd : X.get D = some ⟨ver + 1, .cells .own 0 [pv, .int .i64 c.mutexes, .int .i64 c.atomics, chv, .slice (h5.n + 1) 0 c.funcs.length c.funcs.length false, .int .i64 c.main, v]⟩ := by rw [← hXX]; simp (disch := first | omega | (simp only [hN] <;> omega) | fail) only [go_sem, simprocAttr]
          have hXf : X.get (h5.n + 1) = some ⟨0, .cells .own 3 css⟩ := by rw [← hXX]; simp (disch := first | omega | (simp only [hN] <;> omega) | fail) only [go_sem, simprocAttr]
          have hXo : ∀ b, b < h5.n → b ≠ D → X.get b = h5.get b := fun b hb hne => by rw [← hXX]; simp (disch := first | omega | (simp only [hN] <;> omega) | fail) only [go_sem, simprocAttr]
          clear hXX
          refine wp_loopx 2 (fun m a h' => ∃ (i : Nat) (css' : List AV) (vf : Nat), m = c.funcs.length - i ∧ i ≤ c.funcs.length ∧ h'.get D = some ⟨ver + 1, .cells .own 0 [pv, .int .i64 c.mutexes, .int .i64 c.atomics, chv, .slice (h5.n + 1) 0 c.funcs.length c.funcs.length false, .int .i64 c.main, v]⟩ ∧ (∀ b, b < h5.n → b ≠ D → h'.get b = h5.get b) ∧ h5.n + 2 ≤ h'.n ∧ EnsV h (part c.funcs i) css' ∧ h'.get (h5.n + 1) = some ⟨vf, .cells .own 3 css'⟩ ∧ a.tm.get 3 = some v1 ∧ a.tm.get 5 = some (.ptr D 0) ∧ a.tm.get 65 = some (.int .i64 (c.funcs.length : Int)) ∧ a.tm.get 66 = some (.int .i64 (i : Int)) ∧ a.df = [])
            (fun a h' => ∃ (css' : List AV) (vf : Nat), h'.get D = some ⟨ver + 1, .cells .own 0 [pv, .int .i64 c.mutexes, .int .i64 c.atomics, chv, .slice (h5.n + 1) 0 c.funcs.length c.funcs.length false, .int .i64 c.main, v]⟩ ∧ (∀ b, b < h5.n → b ≠ D → h'.get b = h5.get b) ∧ h5.n + 2 ≤ h'.n ∧ EnsV h (mvF c.funcs) css' ∧ h'.get (h5.n + 1) = some ⟨vf, .cells .own 3 css'⟩ ∧ a.tm.get 3 = some v1 ∧ a.tm.get 5 = some (.ptr D 0) ∧ a.df = []) ?_ ?_ c.funcs.length ?_
          · clear k1 k3 k5 hXd hXf hXo
            rintro m ⟨tt, df⟩ h6 ⟨i, css', vf, hm, hi, hd6, ho6, hB6, hE6, hf6, k3, k5, k65, k66, hdf⟩
            simp only at k3 k5 k65 k66 hdf
            subst hdf
            by_cases hil : i < c.funcs.length
            · have i1 : ((i : Int) < (c.funcs.length : Int)) = True := by simp [hil]
              have i2 : decide ((i : Int) < (c.funcs.length : Int)) = true := decide_eq_true (by omega)
              have iN : ((i : Int) + 1) = ((i + 1 : Nat) : Int) := by omega
              by_cases h0 : i = 0
              · have g0 : decide ((i : Int) > 0) = false := decide_eq_false (by omega)
                simp (disch := first | omega | (simp only [hN] <;> omega) | fail) only [go_sem, simprocAttr, k3, k5, k65, k66, i2, g0, iN]
                refine ⟨c.funcs.length - (i + 1), by omega, i + 1, css', vf, rfl, hil, hd6, ho6, hB6, ?_, hf6, ?_⟩
                · subst h0
                  rw [part_zero] at hE6
                  rw [part_one]; exact hE6
                · simp (disch := first | omega | (simp only [hN] <;> omega) | fail) only [go_sem, simprocAttr]
              · have g0 : decide ((i : Int) > 0) = true := decide_eq_true (by omega)
                have hpl := part_len (l := c.funcs) (i := i) hi
                have hpi := part_at (l := c.funcs) hil
                have hpi2 : (part c.funcs i)[i] = c.funcs[i] := by
                  rw [List.getElem?_eq_getElem (by omega)] at hpi
                  simpa using hpi
                obtain ⟨lv, hrow, _⟩ := hE6.at (i := i) (by omega)
                have hcl := hE6.len
                have hst : css'[i * 3]? = some (.int .i64 c.funcs[i].start) := by
                  have h1 := row_get hrow (i := 0) (by decide)
                  rw [Nat.add_zero, hpi2] at h1
                  exact h1
                have hset := hE6.setSt (i := i) (by omega) (c.funcs[i].start + 1)
                have hsh : (part c.funcs i).set i { (part c.funcs i)[i] with start := c.funcs[i].start + 1 } = part c.funcs (i + 1) := by
                  rw [hpi2]; exact part_set (by omega) hil
                rw [hsh] at hset
                have hff := hFs _ (List.getElem_mem hil)
                have hlay : lay css' (i * 3) [.int .i64 (c.funcs[i].start + 1)] = some (css'.set (i * 3) (.int .i64 (c.funcs[i].start + 1))) := lay_one (by omega)
                simp (disch := first | omega | (simp only [hN] <;> omega) | fail) only [go_sem, simprocAttr, k3, k5, k65, k66, i1, i2, g0, hd6, hf6, hst, hlay, Int.toNat_natCast, Nat.zero_add, Nat.add_zero, iN]
                refine ⟨c.funcs.length - (i + 1), by omega, i + 1, _, vf + 1, rfl, hil, fun b hb hne => ?_, hB6, hset, rfl, rfl⟩
                simp (disch := first | omega | (simp only [hN] <;> omega) | fail) only [go_sem, simprocAttr, ho6]
            · have i2 : decide ((i : Int) < (c.funcs.length : Int)) = false := decide_eq_false (by omega)
              simp (disch := first | omega | (simp only [hN] <;> omega) | fail) only [go_sem, simprocAttr, k3, k5, k65, k66, i2]
              obtain rfl : i = c.funcs.length := by omega
              rw [part_all] at hE6
              exact ⟨css', vf, hd6, ho6, hB6, hE6, hf6⟩
          · clear k1 k3 k5 hXd hXf hXo
            rintro ⟨tt, df⟩ h6 ⟨css', vf, hd6, ho6, hB6, hE6, hf6, k3, k5, hdf⟩
            simp only at k3 k5 hdf
            subst hdf
            have hF6 : Fr h.n h h6 := ⟨by omega, fun b hb _ => by rw [ho6 b (by omega) (by omega)]; exact hF5.all hb⟩
            have hs6 := hs.fr (show Fr D h5 h6 from ⟨by omega, fun b hb hne => ho6 b hb hne⟩) (.inl (Nat.lt_succ_self _))
            have hC6 : CdV h6 (mv c) pv chv (.slice (h5.n + 1) 0 c.funcs.length c.funcs.length false) v := by
              refine ⟨hC.places.fr hF6, hC.chans.fr hF6, ⟨css', hE6.fr hF6, ?_⟩, ?_⟩
              · have e : (mv c).funcs.length = c.funcs.length := mvF_len
                rw [e]
                refine slv_row hfpos (by omega) ?_ (by omega) hf6
                rw [hE6.len, mvF_len]
              · have e := mv_blen (c := c)
                rw [e]
                exact hs6.slv (by omega)
            have hsf6 := hs6.flat
            simp (disch := first | omega | (simp only [hN] <;> omega) | fail) only [go_sem, simprocAttr, k3, k5, hd6, f1.1, f1.2, f2.1, f2.2, hsf6.1, hsf6.2]
            refine stacks_spec (c := mv c) (hF6.gh hGn hG) hC6 ?_
            rw [hst2]
            intro h7 v2 hf7 hv2
            have hn7 := hf7.n; try simp only [hN] at hn7
            have hd7 := (hf7.all (b := D) (by omega)).trans hd6
            have hv17 : StksV h7 ls v1 := hv1.fr ⟨by omega, fun b hb _ => by rw [hf7.all (by omega), ho6 b (by omega) (by omega), ho b (by omega)]⟩
            obtain ⟨sv1, hsl1, hsv1⟩ := hv17
            obtain ⟨sv2, hsl2, hsv2⟩ := hv2
            have hlen2 : lenA v2 = some ((ls.length : Int) + 1) := by
              have := hsl2.len
              rw [this, List.length_cons]; rfl
            have hsm1 := hsl1.small
            have hc2 := hsl2.clen
            have hc1 := hsl1.clen
            rw [List.length_cons] at hc2
            obtain ⟨b2, o2, cp2, ex2, ver2, md2, bs2, rfl, hb2, hg2, hrw2⟩ := hsl2.inv (by simp)
            have h20 : sv2[0]? = some sv2[0] := List.getElem?_eq_getElem (by omega)
            have hi0 := hsv2 0 [] _ rfl h20
            have h200 : bs2[o2 + 0]? = some sv2[0] := by rw [row_get hrw2 (by simp)]; exact h20
            have hz0 := hi0.len
            have hf0 := hi0.flat
            rw [Nat.add_zero] at h200
            have i0 : ((0 : Int) < ((ls.length + 1 : Nat) : Int)) = True := by simp
            have e2 : (((ls.length + 1 : Nat) : Int) == (ls.length : Int) + 1) = true := by simp
            simp only [List.length_cons] at hlen2
            simp (disch := first | omega | (simp only [hN] <;> omega) | fail) only [go_sem, simprocAttr, k3, k5, eqT_nil, hsl1.len, hlen2, e2, Bool.not_true, Bool.not_false, bne, beq_self_eq_true, hg2, h200, i0, Nat.add_zero, hz0, hf0.1, hf0.2]
            generalize hh0 : sv2[0] = s0 at *
            refine wp_loopx 4 (fun m a h' => ∃ i : Nat, m = ls.length - i ∧ i ≤ ls.length ∧ h' = h7 ∧ a.tm.get 3 = some v1 ∧ a.tm.get 5 = some (.ptr D 0) ∧ a.tm.get 9 = some (.slice b2 o2 (ls.length + 1) cp2 ex2) ∧ a.tm.get 104 = some (.int .i64 (ls.length : Int)) ∧ a.tm.get 105 = some (.int .i64 (i : Int)) ∧ a.df = [])
              (fun a h' => h' = h7 ∧ a.tm.get 5 = some (.ptr D 0) ∧ a.df = []) ?_ ?_ ls.length ?_
            · clear k3 k5
              rintro m ⟨tt, df⟩ h8 ⟨i, hm, hi, rfl, k3, k5, k9, k104, k105, hdf⟩
              simp only at k3 k5 k9 k104 k105 hdf
              subst hdf
              by_cases hil : i < ls.length
              · have i2 : decide ((i : Int) < (ls.length : Int)) = true := decide_eq_true (by omega)
                have i1 : ((i : Int) < (ls.length : Int)) = True := by simp [hil]
                have i3 : ((i : Int) + 1 < ((ls.length + 1 : Nat) : Int)) = True := by simp; omega
                have iN : ((i : Int) + 1) = ((i + 1 : Nat) : Int) := by omega
                obtain ⟨b1, o1, cp1, ex1, ver1, md1, bs1, rfl, hb1, hg1, hrw1⟩ := hsl1.inv (by omega)
                have h1i : sv1[i]? = some sv1[i] := List.getElem?_eq_getElem (by omega)
                have h2i : sv2[i + 1]? = some sv2[i + 1] := List.getElem?_eq_getElem (by omega)
                have h1b : bs1[o1 + i]? = some sv1[i] := by rw [row_get hrw1 (by omega)]; exact h1i
                have h2b : bs2[o2 + (i + 1)]? = some sv2[i + 1] := by rw [row_get hrw2 (by simp; omega)]; exact h2i
                have a1 := hsv1 i ls[i] _ (List.getElem?_eq_getElem hil) h1i
                have a2 := hsv2 (i + 1) ls[i] _ (by simp [hil]) h2i
                simp (disch := first | omega | (simp only [hN] <;> omega) | fail) only [go_sem, simprocAttr, k3, k5, k9, k104, k105, i1, i2, i3, iN, hg1, hg2, h1b, h2b, Int.toNat_natCast, Nat.mul_one, a1.flat.1, a1.flat.2, a2.flat.1, a2.flat.2]
                refine same_spec a1 a2 ?_
                have dd : decide (ls[i] = ls[i]) = true := decide_eq_true rfl
                simp (disch := first | omega | (simp only [hN] <;> omega) | fail) only [go_sem, simprocAttr, dd, k3, k5, k9, k104, k105, Bool.not_true, iN]
                refine ⟨ls.length - (i + 1), by omega, i + 1, rfl, hil, ?_⟩
                simp (disch := first | omega | (simp only [hN] <;> omega) | fail) only [go_sem, simprocAttr]
              · have i2 : decide ((i : Int) < (ls.length : Int)) = false := decide_eq_false (by omega)
                simp (disch := first | omega | (simp only [hN] <;> omega) | fail) only [go_sem, simprocAttr, k3, k5, k9, k104, k105, i2]
            · clear k3 k5
              rintro ⟨tt, df⟩ h8 ⟨rfl, k5, hdf⟩
              simp only at k5 hdf
              subst hdf
              simp (disch := first | omega | (simp only [hN] <;> omega) | fail) only [go_sem, simprocAttr, k5, hd7, f1.1, f1.2, f2.1, f2.2, hsf6.1, hsf6.2]
              refine inform_spec (c := mv c) (hC6.fr hf7) hfm2 ?_
              intro h9 hf9
              simp (disch := first | omega | (simp only [hN] <;> omega) | fail) only [go_sem, simprocAttr]
            · simp (disch := first | omega | (simp only [hN] <;> omega) | fail) only [go_sem, simprocAttr, k3, k5]
              exact ⟨0, rfl, Nat.zero_le _, rfl⟩
          · simp (disch := first | omega | (simp only [hN] <;> omega) | fail) only [go_sem, simprocAttr, k3, k5]
            exact ⟨0, css, 0, rfl, Nat.zero_le _, hXd, hXo, by omega, by rw [part_zero]; exact hE, hXf, rfl⟩
        · simp (disch := first | omega | (simp only [hN] <;> omega) | fail) only [go_sem, simprocAttr]
          exact ⟨0, _, 2, rfl, Nat.zero_le _, by omega, o4, d4, by simpa using hs4, rfl⟩
end Go.Ev
