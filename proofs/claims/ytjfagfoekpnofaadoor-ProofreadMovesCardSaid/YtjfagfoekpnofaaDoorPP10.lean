/- Proofread: a code's form. -/
import Derived.Test.YtjfagfoekpnofaaDoorPP8
import Derived.Test.YtjfagfoekpnofaaDoorPP5
import Derived.Test.YtjfagfoekpnofaaDoorPuA
set_option linter.all false
set_option linter.unusedVariables false
set_option linter.unusedSimpArgs false
namespace Go.Ev
open Go
set_option maxRecDepth 100000
set_option maxHeartbeats 4000000

theorem shape_spec {h : AHeap} {c : Cd} {pv chv fv bv : AV} (hC : CdV h c pv chv fv bv) {Q : QR} (hQ : ∀ h', Fr h.n h h' → Q (.ret (.bool (shapeB c))) h') : WF F 23 [.agg (cdC c pv chv fv bv)] h Q := by
  refine WF.code F23 rfl ?_
  obtain ⟨f1, f2, f3, f4⟩ := hC.flats
  obtain ⟨l1, l2, l3, l4⟩ := hC.lens
  obtain ⟨s1, s2, s3, s4⟩ := hC.smalls
  simp (disch := first | omega | (simp only [hN] <;> omega) | fail) only [go_sem, simprocAttr, cdC, f1.1, f1.2, f2.1, f2.2, f3.1, f3.2, f4.1, f4.2]
  have hF0 : Fr h.n h (h.alloc (.cells .own 0 (cdC c pv chv fv bv))) := (Fr.refl _ _).alloc _
  simp only [cdC] at hF0
  generalize hHH : AHeap.alloc h _ = H at hF0 ⊢
  have hHn : H.n = h.n + 1 := by rw [← hHH]; simp (disch := first | omega | (simp only [hN] <;> omega) | fail) only [go_sem, simprocAttr]
  have b0 : H.get h.n = some ⟨0, .cells .own 0 (cdC c pv chv fv bv)⟩ := by rw [← hHH]; simp (disch := first | omega | (simp only [hN] <;> omega) | fail) only [go_sem, simprocAttr, cdC]
  simp only [cdC] at b0
  clear hHH
  replace hC := hC.fr hF0
  simp (disch := first | omega | (simp only [hN] <;> omega) | fail) only [go_sem, simprocAttr, b0, l1]
  by_cases p1 : c.places.length ≤ 128
  · have g : decide ((c.places.length : Int) > 128) = false := decide_eq_false (by omega)
    simp (disch := first | omega | (simp only [hN] <;> omega) | fail) only [go_sem, simprocAttr, g, b0, l1]
    refine within_spec ?_
    cases p2 : inside c.mutexes 0 32
    · have hz : shapeB c = false := by simp [shapeB, headOk, p2]
      rw [hz] at hQ
      simp (disch := first | omega | (simp only [hN] <;> omega) | fail) only [go_sem, simprocAttr, b0]
      exact hQ _ hF0
    simp (disch := first | omega | (simp only [hN] <;> omega) | fail) only [go_sem, simprocAttr, b0]
    refine within_spec ?_
    cases p3 : inside c.atomics 0 32
    · have hz : shapeB c = false := by simp [shapeB, headOk, p3]
      rw [hz] at hQ
      simp (disch := first | omega | (simp only [hN] <;> omega) | fail) only [go_sem, simprocAttr, b0]
      exact hQ _ hF0
    have q2 : 0 ≤ c.mutexes ∧ c.mutexes ≤ 32 := by simpa [inside] using p2
    have q3 : 0 ≤ c.atomics ∧ c.atomics ≤ 32 := by simpa [inside] using p3
    simp (disch := first | omega | (simp only [hN] <;> omega) | fail) only [go_sem, simprocAttr, b0, l2]
    by_cases p4 : c.mutexes + c.atomics + (c.chans.length : Int) ≤ 32
    · have g : decide (c.mutexes + c.atomics + (c.chans.length : Int) > 32) = false := decide_eq_false (by omega)
      simp (disch := first | omega | (simp only [hN] <;> omega) | fail) only [go_sem, simprocAttr, g, b0, l3]
      by_cases p5 : (c.funcs.length : Int) ≤ 16
      · have g : decide ((c.funcs.length : Int) > 16) = false := decide_eq_false (by omega)
        simp (disch := first | omega | (simp only [hN] <;> omega) | fail) only [go_sem, simprocAttr, g, b0, l4]
        by_cases p6 : (c.body.length : Int) ≤ 8192
        · have g : decide ((c.body.length : Int) > 8192) = false := decide_eq_false (by omega)
          simp (disch := first | omega | (simp only [hN] <;> omega) | fail) only [go_sem, simprocAttr, g, b0, l3]
          refine within_spec ?_
          cases p7 : inside c.main 0 ((c.funcs.length : Int) - 1)
          · have hz : shapeB c = false := by simp [shapeB, headOk, p7]
            rw [hz] at hQ
            simp (disch := first | omega | (simp only [hN] <;> omega) | fail) only [go_sem, simprocAttr, b0]
            exact hQ _ hF0
          have q7 : 0 ≤ c.main ∧ c.main ≤ (c.funcs.length : Int) - 1 := by simpa [inside] using p7
          obtain ⟨m, hm⟩ := Int.eq_ofNat_of_zero_le q7.1
          have hml : m < c.funcs.length := by omega
          obtain ⟨css, hE, hfs⟩ := hC.funcs
          obtain ⟨b', o, cp, ex, ver', md, bs, rfl, hb, hg, hrw⟩ := hfs.inv (by omega)
          obtain ⟨lv', hrow, hlv⟩ := hE.at hml
          have hpar : bs[o + m * 3 + 1]? = some (.int .i64 c.funcs[m].params) := by
            rw [Nat.add_assoc, row_get hrw (by omega)]
            have h1 := row_get hrow (i := 1) (by decide)
            rw [h1]; rfl
          have hfm : c.funcs.getD c.main.toNat ⟨0, 0, []⟩ = c.funcs[m] := by rw [hm, Int.toNat_natCast]; simp [List.getD, hml]
          have im : ((m : Int) < (c.funcs.length : Int)) = True := by simp [hml]
          simp (disch := first | omega | (simp only [hN] <;> omega) | fail) only [go_sem, simprocAttr, b0, hm, l3, hg, hpar, im, Int.toNat_natCast]
          by_cases p8 : c.funcs[m].params = 0
          · have hhead : headOk c = true := by
              unfold headOk
              rw [p2, p3, p7, hfm, p8]
              simp [p4, p5, p6]
              omega
            have g8 : (c.funcs[m].params == 0) = true := by simp [p8]
            simp (disch := first | omega | (simp only [hN] <;> omega) | fail) only [go_sem, simprocAttr, g8, b0, l2, bne, Bool.not_true]
            clear g8 hfm hpar hrow hlv p2 p3 p7 q7 g im p1 p4
            refine wp_loopx 0 (fun n a h' => ∃ i : Nat, n = c.chans.length - i ∧ i ≤ c.chans.length ∧ Fr H.n H h' ∧ (c.chans.take i).all (fun x => typB x.1 && inside x.2 0 8) = true ∧ a.tm.get 1 = some (.ptr h.n 0) ∧ a.tm.get 69 = some chv ∧ a.tm.get 70 = some (.int .i64 (c.chans.length : Int)) ∧ a.tm.get 71 = some (.int .i64 (i : Int)) ∧ a.df = [])
              (fun a h' => Fr H.n H h' ∧ c.chans.all (fun x => typB x.1 && inside x.2 0 8) = true ∧ a.tm.get 1 = some (.ptr h.n 0) ∧ a.df = []) ?_ ?_ c.chans.length ?_
            · rintro n ⟨t, df⟩ h2 ⟨i, hn, hi, hf, ht, k1, k69, k70, k71, hdf⟩
              simp only at k1 k69 k70 k71 hdf
              subst hdf
              have hn2 := hf.n; try simp only [hN] at hn2
              by_cases hil : i < c.chans.length
              · obtain ⟨b2, o2, cp2, ex2, ver2, md2, bs2, rfl, hb2, hg2, hrw2⟩ := hC.chans.inv (by omega)
                have hrow : row bs2 (o2 + i * 2) 2 = some (chC c.chans[i]) := by
                  rw [row_sub hrw2 (by omega)]
                  exact flat_row (f := chC) (fun _ => rfl) (List.getElem?_eq_getElem hil)
                have hg3 := (hf.all hb2).trans hg2
                have i1 : ((i : Int) < (c.chans.length : Int)) = True := by simp [hil]
                have i2 : decide ((i : Int) < (c.chans.length : Int)) = true := decide_eq_true (by omega)
                have iN : ((i : Int) + 1) = ((i + 1 : Nat) : Int) := by omega
                have bad : (typB c.chans[i].1 && inside c.chans[i].2 0 8) = false → shapeB c = false := by
                  intro e
                  have : c.chans.all (fun x => typB x.1 && inside x.2 0 8) = false := by
                    rw [List.all_eq_false]
                    exact ⟨_, List.getElem_mem hil, by simp only [e]; decide⟩
                  simp [shapeB, this]
                have good : (typB c.chans[i].1 && inside c.chans[i].2 0 8) = true → (c.chans.take (i + 1)).all (fun x => typB x.1 && inside x.2 0 8) = true := by
                  intro e
                  rw [List.take_add_one, List.getElem?_eq_getElem hil, List.all_append, ht]
                  simp only [Option.toList_some, List.all_cons, e, List.all_nil, Bool.and_true]
                generalize c.chans[i] = x at *
                simp only [chC] at hrow
                simp (disch := first | omega | (simp only [hN] <;> omega) | fail) only [go_sem, simprocAttr, k1, k69, k70, k71, i1, i2, hg3, hrow, Int.toNat_natCast]
                refine typ_spec ?_
                cases t1 : typB x.1
                · rw [bad (by rw [t1]; rfl)] at hQ
                  simp (disch := first | omega | (simp only [hN] <;> omega) | fail) only [go_sem, simprocAttr, k1, k69, k70, k71]
                  exact hQ _ (hF0.trans ⟨by first | omega | (simp only [hN]; omega), fun b hb hne => by (try simp only [hN] at hb hne); simp (disch := first | omega | (simp only [hN] <;> omega) | fail) only [go_sem, simprocAttr, hf.old]⟩)
                · simp (disch := first | omega | (simp only [hN] <;> omega) | fail) only [go_sem, simprocAttr, k1, k69, k70, k71]
                  refine within_spec ?_
                  cases t2 : inside x.2 0 8
                  · rw [bad (by rw [t1, t2]; rfl)] at hQ
                    simp (disch := first | omega | (simp only [hN] <;> omega) | fail) only [go_sem, simprocAttr, k1, k69, k70, k71]
                    exact hQ _ (hF0.trans ⟨by first | omega | (simp only [hN]; omega), fun b hb hne => by (try simp only [hN] at hb hne); simp (disch := first | omega | (simp only [hN] <;> omega) | fail) only [go_sem, simprocAttr, hf.old]⟩)
                  · simp (disch := first | omega | (simp only [hN] <;> omega) | fail) only [go_sem, simprocAttr, k1, k69, k70, k71, iN]
                    refine ⟨c.chans.length - (i + 1), by omega, i + 1, rfl, hil, ?_, good (by rw [t1, t2]; rfl), ?_⟩
                    · exact ⟨by first | omega | (simp only [hN]; omega), fun b hb hne => by (try simp only [hN] at hb hne); simp (disch := first | omega | (simp only [hN] <;> omega) | fail) only [go_sem, simprocAttr, hf.old]⟩
                    · simp (disch := first | omega | (simp only [hN] <;> omega) | fail) only [go_sem, simprocAttr]
              · have i2 : decide ((i : Int) < (c.chans.length : Int)) = false := decide_eq_false (by omega)
                simp (disch := first | omega | (simp only [hN] <;> omega) | fail) only [go_sem, simprocAttr, k1, k69, k70, k71, i2]
                refine ⟨hf, ?_⟩
                rwa [List.take_of_length_le (by omega)] at ht
            · rintro ⟨t, df⟩ h2 ⟨hf, hch, k1, hdf⟩
              simp only at k1 hdf
              subst hdf
              have hn2 := hf.n; try simp only [hN] at hn2
              have c0 := (hf.all (b := h.n) (by omega)).trans b0
              simp (disch := first | omega | (simp only [hN] <;> omega) | fail) only [go_sem, simprocAttr, k1, c0, l3]
              refine wp_loopx 2 (fun n a h' => ∃ (i : Nat) (last : Int), n = c.funcs.length - i ∧ i ≤ c.funcs.length ∧ Fr H.n H h' ∧ ensOk c.body.length last (decide (i = 0)) (c.funcs.drop i) = ensOk c.body.length (-1) true c.funcs ∧ a.tm.get 1 = some (.ptr h.n 0) ∧ a.tm.get 5 = some (.int .i64 last) ∧ a.tm.get 87 = some (.slice b' o c.funcs.length cp ex) ∧ a.tm.get 88 = some (.int .i64 (c.funcs.length : Int)) ∧ a.tm.get 89 = some (.int .i64 (i : Int)) ∧ a.df = [])
                (fun a h' => Fr H.n H h' ∧ ensOk c.body.length (-1) true c.funcs = true ∧ a.tm.get 1 = some (.ptr h.n 0) ∧ a.df = []) ?_ ?_ c.funcs.length ?_
              · clear k1 c0 hf hn2
                rintro n ⟨t, df⟩ h2 ⟨i, last, hn, hi, hf, he, k1, k5, k87, k88, k89, hdf⟩
                simp only at k1 k5 k87 k88 k89 hdf
                subst hdf
                have hn2 := hf.n; try simp only [hN] at hn2
                have c0 := (hf.all (b := h.n) (by omega)).trans b0
                by_cases hil : i < c.funcs.length
                · obtain ⟨lv, hrow, hlv⟩ := hE.at hil
                  rw [← row_sub hrw (by omega)] at hrow
                  have hg3 := (hf.all hb).trans hg
                  have i1 : ((i : Int) < (c.funcs.length : Int)) = True := by simp [hil]
                  have i2 : decide ((i : Int) < (c.funcs.length : Int)) = true := decide_eq_true (by omega)
                  have iN : ((i : Int) + 1) = ((i + 1 : Nat) : Int) := by omega
                  rw [List.drop_eq_getElem_cons hil] at he
                  generalize c.funcs[i] = f at *
                  rw [ensOk] at he
                  have bad : enOk (c.body.length : Int) last (decide (i = 0)) f = false → shapeB c = false := by
                    intro e
                    rw [e, Bool.false_and] at he
                    simp [shapeB, ← he]
                  have hlvf := hlv.1.flat
                  have hlvl := hlv.1.len
                  have hmin : mxA false (.int .i64 4) [.int .i64 (f.locals.length : Int)] = some (.int .i64 (min 4 (f.locals.length : Int))) := by
                    simp only [mxA, cond_false]
                    by_cases e : (f.locals.length : Int) < 4
                    · rw [decide_eq_true e, cond_true, Int.min_eq_right (by omega)]
                    · rw [decide_eq_false e, cond_false, Int.min_eq_left (by omega)]
                  simp only [enC] at hrow
                  simp (disch := first | omega | (simp only [hN] <;> omega) | fail) only [go_sem, simprocAttr, k1, k5, k87, k88, k89, i1, i2, hg3, hrow, Int.toNat_natCast, hlvf.1, hlvf.2]
                  by_cases a1 : last < f.start
                  · have g1 : decide (f.start ≤ last) = false := decide_eq_false (by omega)
                    by_cases a2 : i = 0
                    · have g2 : ((i : Int) == 0) = true := by simp [a2]
                      by_cases a2b : f.start = 0
                      · have g2b : (f.start == 0) = true := by simp [a2b]
                        simp (disch := first | omega | (simp only [hN] <;> omega) | fail) only [go_sem, simprocAttr, k1, k5, k87, k88, k89, g1, g2, g2b, bne, Bool.not_true, c0, l4]
                        by_cases a3 : f.start < (c.body.length : Int)
                        · have g3 : decide (f.start ≥ (c.body.length : Int)) = false := decide_eq_false (by omega)
                          simp (disch := first | omega | (simp only [hN] <;> omega) | fail) only [go_sem, simprocAttr, k1, k5, k87, k88, k89, c0, l4, g3, hlvl, hmin]
                          refine within_spec ?_
                          cases a4 : inside f.params 0 (min 4 (f.locals.length : Int))
                          · rw [bad (by simp [enOk, a4])] at hQ
                            simp (disch := first | omega | (simp only [hN] <;> omega) | fail) only [go_sem, simprocAttr, k1, k5, k87, k88, k89]
                            exact hQ _ (hF0.trans ⟨by first | omega | (simp only [hN]; omega), fun b hb hne => by (try simp only [hN] at hb hne); simp (disch := first | omega | (simp only [hN] <;> omega) | fail) only [go_sem, simprocAttr, hf.old]⟩)
                          · simp (disch := first | omega | (simp only [hN] <;> omega) | fail) only [go_sem, simprocAttr, k1, k5, k87, k88, k89, hlvl]
                            by_cases a5 : (f.locals.length : Int) ≤ 32
                            · have g5 : decide ((f.locals.length : Int) > 32) = false := decide_eq_false (by omega)
                              simp (disch := first | omega | (simp only [hN] <;> omega) | fail) only [go_sem, simprocAttr, k1, k5, k87, k88, k89, g5, hlvf.1, hlvf.2]
                              refine all_spec (p := typB) (hlv.1.fr ⟨by first | omega | (simp only [hN]; omega), fun b hb hne => by (try simp only [hN] at hb hne); simp (disch := first | omega | (simp only [hN] <;> omega) | fail) only [go_sem, simprocAttr, hf.old]⟩) (fun h' _ => typ_call) ?_
                              intro h3 hf3
                              have hn3 := hf3.n; try simp only [hN] at hn3
                              cases a6 : f.locals.all typB
                              · rw [bad (by simp only [enOk, a6, Bool.and_false])] at hQ
                                simp (disch := first | omega | (simp only [hN] <;> omega) | fail) only [go_sem, simprocAttr, k1, k5, k87, k88, k89]
                                exact hQ _ (hF0.trans ⟨by first | omega | (simp only [hN]; omega), fun b hb hne => by (try simp only [hN] at hb hne); simp (disch := first | omega | (simp only [hN] <;> omega) | fail) only [go_sem, simprocAttr, hf3.old, hf.old]⟩)
                              · have m7 : h3.get h2.n = some ⟨1, .cells .own 0 (enC f lv)⟩ := by simp (disch := first | omega | (simp only [hN] <;> omega) | fail) only [go_sem, simprocAttr, hf3.old, enC]
                                simp only [enC] at m7
                                simp (disch := first | omega | (simp only [hN] <;> omega) | fail) only [go_sem, simprocAttr, k1, k5, k87, k88, k89, m7, iN]
                                refine ⟨c.funcs.length - (i + 1), by omega, i + 1, f.start, rfl, hil, ?_, ?_, ?_⟩
                                · exact ⟨by first | omega | (simp only [hN]; omega), fun b hb hne => by (try simp only [hN] at hb hne); simp (disch := first | omega | (simp only [hN] <;> omega) | fail) only [go_sem, simprocAttr, hf3.old, hf.old]⟩
                                · rw [← he]
                                  have e1 : enOk (c.body.length : Int) last (decide (i = 0)) f = true := by simp only [enOk, decide_eq_true a1, decide_eq_true a3, a4, decide_eq_true a5, a6, g2b, Bool.or_true, Bool.and_true]
                                  rw [e1, decide_eq_false (by omega), Bool.true_and]
                                · simp (disch := first | omega | (simp only [hN] <;> omega) | fail) only [go_sem, simprocAttr]
                            · have g5 : decide ((f.locals.length : Int) > 32) = true := decide_eq_true (by omega)
                              rw [bad (by simp [enOk, a5])] at hQ
                              simp (disch := first | omega | (simp only [hN] <;> omega) | fail) only [go_sem, simprocAttr, k1, k5, k87, k88, k89, g5]
                              exact hQ _ (hF0.trans ⟨by first | omega | (simp only [hN]; omega), fun b hb hne => by (try simp only [hN] at hb hne); simp (disch := first | omega | (simp only [hN] <;> omega) | fail) only [go_sem, simprocAttr, hf.old]⟩)
                        · have g3 : decide (f.start ≥ (c.body.length : Int)) = true := decide_eq_true (by omega)
                          rw [bad (by simp [enOk, a3])] at hQ
                          simp (disch := first | omega | (simp only [hN] <;> omega) | fail) only [go_sem, simprocAttr, k1, k5, k87, k88, k89, c0, l4, g3]
                          exact hQ _ (hF0.trans ⟨by first | omega | (simp only [hN]; omega), fun b hb hne => by (try simp only [hN] at hb hne); simp (disch := first | omega | (simp only [hN] <;> omega) | fail) only [go_sem, simprocAttr, hf.old]⟩)
                      · have g2b : (f.start == 0) = false := by simp [a2b]
                        rw [bad (by simp [enOk, a2, a2b])] at hQ
                        simp (disch := first | omega | (simp only [hN] <;> omega) | fail) only [go_sem, simprocAttr, k1, k5, k87, k88, k89, g1, g2, g2b, bne, Bool.not_false]
                        exact hQ _ (hF0.trans ⟨by first | omega | (simp only [hN]; omega), fun b hb hne => by (try simp only [hN] at hb hne); simp (disch := first | omega | (simp only [hN] <;> omega) | fail) only [go_sem, simprocAttr, hf.old]⟩)
                    · have g2 : ((i : Int) == 0) = false := by simp [a2]
                      simp (disch := first | omega | (simp only [hN] <;> omega) | fail) only [go_sem, simprocAttr, k1, k5, k87, k88, k89, g1, g2, c0, l4]
                      by_cases a3 : f.start < (c.body.length : Int)
                      · have g3 : decide (f.start ≥ (c.body.length : Int)) = false := decide_eq_false (by omega)
                        simp (disch := first | omega | (simp only [hN] <;> omega) | fail) only [go_sem, simprocAttr, k1, k5, k87, k88, k89, c0, l4, g3, hlvl, hmin]
                        refine within_spec ?_
                        cases a4 : inside f.params 0 (min 4 (f.locals.length : Int))
                        · rw [bad (by simp [enOk, a4])] at hQ
                          simp (disch := first | omega | (simp only [hN] <;> omega) | fail) only [go_sem, simprocAttr, k1, k5, k87, k88, k89]
                          exact hQ _ (hF0.trans ⟨by first | omega | (simp only [hN]; omega), fun b hb hne => by (try simp only [hN] at hb hne); simp (disch := first | omega | (simp only [hN] <;> omega) | fail) only [go_sem, simprocAttr, hf.old]⟩)
                        · simp (disch := first | omega | (simp only [hN] <;> omega) | fail) only [go_sem, simprocAttr, k1, k5, k87, k88, k89, hlvl]
                          by_cases a5 : (f.locals.length : Int) ≤ 32
                          · have g5 : decide ((f.locals.length : Int) > 32) = false := decide_eq_false (by omega)
                            simp (disch := first | omega | (simp only [hN] <;> omega) | fail) only [go_sem, simprocAttr, k1, k5, k87, k88, k89, g5, hlvf.1, hlvf.2]
                            refine all_spec (p := typB) (hlv.1.fr ⟨by first | omega | (simp only [hN]; omega), fun b hb hne => by (try simp only [hN] at hb hne); simp (disch := first | omega | (simp only [hN] <;> omega) | fail) only [go_sem, simprocAttr, hf.old]⟩) (fun h' _ => typ_call) ?_
                            intro h3 hf3
                            have hn3 := hf3.n; try simp only [hN] at hn3
                            cases a6 : f.locals.all typB
                            · rw [bad (by simp only [enOk, a6, Bool.and_false])] at hQ
                              simp (disch := first | omega | (simp only [hN] <;> omega) | fail) only [go_sem, simprocAttr, k1, k5, k87, k88, k89]
                              exact hQ _ (hF0.trans ⟨by first | omega | (simp only [hN]; omega), fun b hb hne => by (try simp only [hN] at hb hne); simp (disch := first | omega | (simp only [hN] <;> omega) | fail) only [go_sem, simprocAttr, hf3.old, hf.old]⟩)
                            · have m7 : h3.get h2.n = some ⟨1, .cells .own 0 (enC f lv)⟩ := by simp (disch := first | omega | (simp only [hN] <;> omega) | fail) only [go_sem, simprocAttr, hf3.old, enC]
                              simp only [enC] at m7
                              simp (disch := first | omega | (simp only [hN] <;> omega) | fail) only [go_sem, simprocAttr, k1, k5, k87, k88, k89, m7, iN]
                              refine ⟨c.funcs.length - (i + 1), by omega, i + 1, f.start, rfl, hil, ?_, ?_, ?_⟩
                              · exact ⟨by first | omega | (simp only [hN]; omega), fun b hb hne => by (try simp only [hN] at hb hne); simp (disch := first | omega | (simp only [hN] <;> omega) | fail) only [go_sem, simprocAttr, hf3.old, hf.old]⟩
                              · rw [← he]
                                have e1 : enOk (c.body.length : Int) last (decide (i = 0)) f = true := by simp only [enOk, decide_eq_true a1, decide_eq_true a3, a4, decide_eq_true a5, a6, decide_eq_false a2, Bool.not_false, Bool.true_or, Bool.and_true]
                                rw [e1, decide_eq_false (by omega), Bool.true_and]
                              · simp (disch := first | omega | (simp only [hN] <;> omega) | fail) only [go_sem, simprocAttr]
                          · have g5 : decide ((f.locals.length : Int) > 32) = true := decide_eq_true (by omega)
                            rw [bad (by simp [enOk, a5])] at hQ
                            simp (disch := first | omega | (simp only [hN] <;> omega) | fail) only [go_sem, simprocAttr, k1, k5, k87, k88, k89, g5]
                            exact hQ _ (hF0.trans ⟨by first | omega | (simp only [hN]; omega), fun b hb hne => by (try simp only [hN] at hb hne); simp (disch := first | omega | (simp only [hN] <;> omega) | fail) only [go_sem, simprocAttr, hf.old]⟩)
                      · have g3 : decide (f.start ≥ (c.body.length : Int)) = true := decide_eq_true (by omega)
                        rw [bad (by simp [enOk, a3])] at hQ
                        simp (disch := first | omega | (simp only [hN] <;> omega) | fail) only [go_sem, simprocAttr, k1, k5, k87, k88, k89, c0, l4, g3]
                        exact hQ _ (hF0.trans ⟨by first | omega | (simp only [hN]; omega), fun b hb hne => by (try simp only [hN] at hb hne); simp (disch := first | omega | (simp only [hN] <;> omega) | fail) only [go_sem, simprocAttr, hf.old]⟩)
                  · have g1 : decide (f.start ≤ last) = true := decide_eq_true (by omega)
                    rw [bad (by simp [enOk, a1])] at hQ
                    simp (disch := first | omega | (simp only [hN] <;> omega) | fail) only [go_sem, simprocAttr, k1, k5, k87, k88, k89, g1]
                    exact hQ _ (hF0.trans ⟨by first | omega | (simp only [hN]; omega), fun b hb hne => by (try simp only [hN] at hb hne); simp (disch := first | omega | (simp only [hN] <;> omega) | fail) only [go_sem, simprocAttr, hf.old]⟩)
                · have i2 : decide ((i : Int) < (c.funcs.length : Int)) = false := decide_eq_false (by omega)
                  simp (disch := first | omega | (simp only [hN] <;> omega) | fail) only [go_sem, simprocAttr, k1, k5, k87, k88, k89, i2]
                  refine ⟨hf, ?_⟩
                  rw [← he, List.drop_of_length_le (by omega)]
                  rfl
              · clear k1 c0 hf hn2
                rintro ⟨t, df⟩ h2 ⟨hf, hen, k1, hdf⟩
                simp only at k1 hdf
                subst hdf
                have hn2 := hf.n; try simp only [hN] at hn2
                have c0 := (hf.all (b := h.n) (by omega)).trans b0
                simp (disch := first | omega | (simp only [hN] <;> omega) | fail) only [go_sem, simprocAttr, k1, c0, f1.1, f1.2]
                refine all_spec (p := typB) (hC.places.1.fr hf) (fun h' _ => typ_call) ?_
                intro h3 hf3
                have hn3 := hf3.n; try simp only [hN] at hn3
                have hz : shapeB c = c.places.all typB := by simp [shapeB, hhead, hch, hen]
                rw [hz] at hQ
                simp (disch := first | omega | (simp only [hN] <;> omega) | fail) only [go_sem, simprocAttr]
                exact hQ _ (hF0.trans ⟨by first | omega | (simp only [hN]; omega), fun b hb hne => by (try simp only [hN] at hb hne); simp (disch := first | omega | (simp only [hN] <;> omega) | fail) only [go_sem, simprocAttr, hf3.old, hf.old]⟩)
              · simp (disch := first | omega | (simp only [hN] <;> omega) | fail) only [go_sem, simprocAttr]
                exact ⟨0, -1, rfl, Nat.zero_le _, hf, rfl, by simp (disch := first | omega | (simp only [hN] <;> omega) | fail) only [go_sem, simprocAttr, k1]⟩
            · simp (disch := first | omega | (simp only [hN] <;> omega) | fail) only [go_sem, simprocAttr, l2]
              exact ⟨0, rfl, Nat.zero_le _, Fr.refl _ _, by simp, by simp (disch := first | omega | (simp only [hN] <;> omega) | fail) only [go_sem, simprocAttr]⟩
          · have g8 : (c.funcs[m].params == 0) = false := by simp [p8]
            have hz : shapeB c = false := by
              have : headOk c = false := by unfold headOk; rw [hfm, g8]; simp
              simp [shapeB, this]
            rw [hz] at hQ
            simp (disch := first | omega | (simp only [hN] <;> omega) | fail) only [go_sem, simprocAttr, g8, bne, Bool.not_false]
            exact hQ _ hF0
        · have g : decide ((c.body.length : Int) > 8192) = true := decide_eq_true (by omega)
          have hn : ¬ ((c.body.length : Int) ≤ 8192) := by omega
          have hz : shapeB c = false := by simp [shapeB, headOk, hn]
          rw [hz] at hQ
          simp (disch := first | omega | (simp only [hN] <;> omega) | fail) only [go_sem, simprocAttr, g]
          exact hQ _ hF0
      · have g : decide ((c.funcs.length : Int) > 16) = true := decide_eq_true (by omega)
        have hn : ¬ ((c.funcs.length : Int) ≤ 16) := by omega
        have hz : shapeB c = false := by simp [shapeB, headOk, hn]
        rw [hz] at hQ
        simp (disch := first | omega | (simp only [hN] <;> omega) | fail) only [go_sem, simprocAttr, g]
        exact hQ _ hF0
    · have g : decide (c.mutexes + c.atomics + (c.chans.length : Int) > 32) = true := decide_eq_true (by omega)
      have hn : ¬ (c.mutexes + c.atomics + (c.chans.length : Int) ≤ 32) := by omega
      have hz : shapeB c = false := by simp [shapeB, headOk, hn]
      rw [hz] at hQ
      simp (disch := first | omega | (simp only [hN] <;> omega) | fail) only [go_sem, simprocAttr, g]
      exact hQ _ hF0
  · have g : decide ((c.places.length : Int) > 128) = true := decide_eq_true (by omega)
    have hn : ¬ ((c.places.length : Int) ≤ 128) := by omega
    have hz : shapeB c = false := by simp [shapeB, headOk, hn]
    rw [hz] at hQ
    simp (disch := first | omega | (simp only [hN] <;> omega) | fail) only [go_sem, simprocAttr, g]
    exact hQ _ hF0
end Go.Ev
/- Proofread: a code is asked. -/
namespace Go.Ev
open Go
set_option maxRecDepth 100000
set_option maxHeartbeats 4000000

/-- A function that asks an instruction. -/
def CallI (h : AHeap) (g : Nat) (cap : List AV) (p : Ins → Bool) : Prop := ∀ (h' : AHeap) (x : Ins) (Q : QR), Fr h.n h h' → (∀ h'', Fr h'.n h' h'' → Q (.ret (.bool (p x))) h'') → WF F g (.agg (insC x) :: cap) h' Q
theorem indexIns {h : AHeap} {l : List Ins} {v : AV} {g : Nat} {cap : List AV} {p : Ins → Bool} (hv : SlV h 5 l.length (l.flatMap insC) v) (hp : CallI h g cap p) {Q : QR} (hQ : ∀ h' (i : Int), Fr h.n h h' → decide (i ≥ 0) = l.any p → Q (.ret (.int .i64 i)) h') : WF F 36 [v, .func (.func g) [] cap] h Q := by
  refine WF.code F36 rfl ?_
  have h1 := hv.small
  simp (disch := first | omega | (simp only [hN] <;> omega) | fail) only [go_sem, simprocAttr, hv.len, hv.flat.1, hv.flat.2]
  refine wp_loop (fun n a h' => ∃ i : Nat, n = l.length - i ∧ i ≤ l.length ∧ Fr h.n h h' ∧ (l.take i).any p = false ∧ a.tm.get 0 = some v ∧ a.tm.get 1 = some (.func (.func g) [] cap) ∧ a.tm.get 7 = some (.int .i64 (l.length : Int)) ∧ a.tm.get 8 = some (.int .i64 (i : Int)) ∧ a.df = []) ?_ l.length ?_
  · rintro n ⟨t, df⟩ h' ⟨i, hn, hi, hf, ht, k0, k1, k7, k8, hdf⟩
    simp only at k0 k1 k7 k8 hdf
    subst hdf
    have hn' := hf.n; try simp only [hN] at hn'
    simp (disch := first | omega | (simp only [hN] <;> omega) | fail) only [go_sem, simprocAttr, k0, k1, k7, k8]
    (first | refine kA (fun hlt => ?_) (fun hlt => ?_) | refine kB (fun hlt => ?_) (fun hlt => ?_) | refine kC (fun hlt => ?_) (fun hlt => ?_) | refine kD (fun hlt => ?_) (fun hlt => ?_) | refine kE (fun hlt => ?_) (fun hlt => ?_) | refine kF (fun hlt => ?_) (fun hlt => ?_))
    · have hil : i < l.length := (by have := of_decide_eq_true hlt; omega)
      obtain ⟨b, o, c, ex, ver, md, bs, rfl, hb, hg, hrw⟩ := hv.inv (by omega)
      have hrow : row bs (o + i * 5) 5 = some (insC l[i]) := by
        rw [row_sub hrw (by omega)]
        exact flat_row (f := insC) (fun _ => rfl) (List.getElem?_eq_getElem hil)
      have hg1 := (hf.all hb).trans hg
      have i1 : ((i : Int) < (l.length : Int)) = True := by simp [hil]
      have iN : ((i : Int) + 1) = ((i + 1 : Nat) : Int) := by omega
      simp (disch := first | omega | (simp only [hN] <;> omega) | fail) only [go_sem, simprocAttr, k0, k1, k7, k8, Int.toNat_natCast, hg1, hrow, i1]
      refine hp h' _ _ hf ?_
      intro h2 hf2
      have hn2 := hf2.n; try simp only [hN] at hn2
      cases hpi : p l[i]
      · simp (disch := first | omega | (simp only [hN] <;> omega) | fail) only [go_sem, simprocAttr, k0, k1, k7, k8, iN]
        refine ⟨l.length - (i + 1), by omega, i + 1, rfl, hil, ?_, any_take hil ht hpi, ?_⟩
        · exact ⟨by first | omega | (simp only [hN]; omega), fun b hb hne => by (try simp only [hN] at hb hne); simp (disch := first | omega | (simp only [hN] <;> omega) | fail) only [go_sem, simprocAttr, hf2.old, hf.old]⟩
        · simp (disch := first | omega | (simp only [hN] <;> omega) | fail) only [go_sem, simprocAttr]
      · simp (disch := first | omega | (simp only [hN] <;> omega) | fail) only [go_sem, simprocAttr, k0, k1]
        exact hQ _ _ ⟨by first | omega | (simp only [hN]; omega), fun b hb hne => by (try simp only [hN] at hb hne); simp (disch := first | omega | (simp only [hN] <;> omega) | fail) only [go_sem, simprocAttr, hf2.old, hf.old]⟩ (by rw [any_at hil hpi]; exact decide_eq_true (by omega))
    · have hil : i = l.length := by have := of_decide_eq_false hlt; omega
      simp (disch := first | omega | (simp only [hN] <;> omega) | fail) only [go_sem, simprocAttr, k0, k1]
      subst hil
      rw [List.take_length] at ht
      exact hQ _ _ hf (by rw [ht]; rfl)
  · simp (disch := first | omega | (simp only [hN] <;> omega) | fail) only [go_sem, simprocAttr, hv.len]
    exact ⟨0, rfl, Nat.zero_le _, Fr.refl _ _, rfl, rfl⟩
theorem containsIns {h : AHeap} {l : List Ins} {v : AV} {g : Nat} {cap : List AV} {p : Ins → Bool} (hv : SlV h 5 l.length (l.flatMap insC) v) (hp : CallI h g cap p) {Q : QR} (hQ : ∀ h', Fr h.n h h' → Q (.ret (.bool (l.any p))) h') : WF F 24 [v, .func (.func g) [] cap] h Q := by
  refine WF.code F24 rfl ?_
  simp (disch := first | omega | (simp only [hN] <;> omega) | fail) only [go_sem, simprocAttr, hv.flat.1, hv.flat.2]
  refine indexIns hv hp ?_
  intro h' i hf hi
  simp (disch := first | omega | (simp only [hN] <;> omega) | fail) only [go_sem, simprocAttr, hi]
  exact hQ _ hf
theorem check_spec {h : AHeap} {c : Cd} {pv chv fv bv : AV} (hG : GH h) (hC : CdV h c pv chv fv bv) {Q : QR} (hQ : ∀ h', Fr h.n h h' → Q (.ret (if formB c then .nilIface else errAV 9)) h') : WF F 15 [.agg (cdC c pv chv fv bv)] h Q := by
  refine WF.code F15 rfl ?_
  obtain ⟨f1, f2, f3, f4⟩ := hC.flats
  have hGn := hG.n
  simp (disch := first | omega | (simp only [hN] <;> omega) | fail) only [go_sem, simprocAttr, cdC, f1.1, f1.2, f2.1, f2.2, f3.1, f3.2, f4.1, f4.2]
  have hF0 : Fr h.n h (h.alloc (.cells .own 0 (cdC c pv chv fv bv))) := (Fr.refl _ _).alloc _
  have hG1 := hG.alloc (.cells .own 0 (cdC c pv chv fv bv))
  simp only [cdC] at hF0 hG1
  generalize hHH : AHeap.alloc h _ = H at hF0 hG1 ⊢
  have hHn : H.n = h.n + 1 := by rw [← hHH]; simp (disch := first | omega | (simp only [hN] <;> omega) | fail) only [go_sem, simprocAttr]
  have b0 : H.get h.n = some ⟨0, .cells .own 0 (cdC c pv chv fv bv)⟩ := by rw [← hHH]; simp (disch := first | omega | (simp only [hN] <;> omega) | fail) only [go_sem, simprocAttr, cdC]
  clear hHH
  replace hC := hC.fr hF0
  refine shape_spec hC ?_
  intro h1 hf1
  have hn1 := hf1.n; try simp only [hN] at hn1
  have b1 := (hf1.all (b := h.n) (by omega)).trans b0
  have g1 := (hf1.all (b := 0) (by omega)).trans (hG1.gl 0 (by decide))
  unfold formB at hQ
  cases hs : shapeB c
  · rw [hs] at hQ
    simp (disch := first | omega | (simp only [hN] <;> omega) | fail) only [go_sem, simprocAttr, g1]
    exact hQ _ (hF0.trans ⟨by first | omega | (simp only [hN]; omega), fun b hb hne => by (try simp only [hN] at hb hne); simp (disch := first | omega | (simp only [hN] <;> omega) | fail) only [go_sem, simprocAttr, hf1.old]⟩)
  · rw [hs] at hQ
    have hhd : (0 ≤ c.mutexes ∧ c.mutexes ≤ 32) ∧ (0 ≤ c.atomics ∧ c.atomics ≤ 32) := by
      simp [shapeB, headOk, inside] at hs
      omega
    simp only [cdC] at b1
    simp (disch := first | omega | (simp only [hN] <;> omega) | fail) only [go_sem, simprocAttr, b1, f4.1, f4.2]
    refine containsIns (p := fun x => !insOk c x) (hC.fr hf1).body ?_ ?_
    · intro h2 x Q' hf2 hQ'
      have hn2 := hf2.n; try simp only [hN] at hn2
      have b2 := (hf2.all (b := h.n) (by omega)).trans b1
      refine WF.code F25 rfl ?_
      simp (disch := first | omega | (simp only [hN] <;> omega) | fail) only [go_sem, simprocAttr, insC, b2, f1.1, f1.2, f2.1, f2.2, f3.1, f3.2, f4.1, f4.2]
      refine instr_spec (x := x) (((hC.fr hf1).fr hf2).fr ((Fr.refl _ _).alloc _)) hhd.1 hhd.2 ?_
      intro h3 hf3
      simp (disch := first | omega | (simp only [hN] <;> omega) | fail) only [go_sem, simprocAttr]
      exact hQ' _ ((Fr.alloc (Fr.refl _ _) _).trans (hf3.any (Nat.le_refl _)))
    · intro h2 hf2
      have hn2 := hf2.n; try simp only [hN] at hn2
      have g2 := (hf2.all (b := 0) (by omega)).trans g1
      have e : (c.body.any fun x => !insOk c x) = !(c.body.all (insOk c)) := by rw [← all_any, Bool.not_not]
      rw [e]
      cases hb : c.body.all (insOk c)
      · rw [hb] at hQ
        simp (disch := first | omega | (simp only [hN] <;> omega) | fail) only [go_sem, simprocAttr, g2]
        exact hQ _ (hF0.trans ⟨by first | omega | (simp only [hN]; omega), fun b hb hne => by (try simp only [hN] at hb hne); simp (disch := first | omega | (simp only [hN] <;> omega) | fail) only [go_sem, simprocAttr, hf2.old, hf1.old]⟩)
      · rw [hb] at hQ
        simp (disch := first | omega | (simp only [hN] <;> omega) | fail) only [go_sem, simprocAttr]
        exact hQ _ (hF0.trans ⟨by first | omega | (simp only [hN]; omega), fun b hb hne => by (try simp only [hN] at hb hne); simp (disch := first | omega | (simp only [hN] <;> omega) | fail) only [go_sem, simprocAttr, hf2.old, hf1.old]⟩)
end Go.Ev
/- Proofread: coming to an instruction. -/
namespace Go.Ev
open Go
set_option maxRecDepth 100000
set_option maxHeartbeats 4000000

/-- Old blocks but two are as they were. -/
def Fr3 (p q : Nat) (h h' : AHeap) : Prop := h.n ≤ h'.n ∧ ∀ b, b < h.n → b ≠ p → b ≠ q → h'.get b = h.get b
theorem Fr3.refl {p q : Nat} {h : AHeap} : Fr3 p q h h := ⟨Nat.le_refl _, fun _ _ _ _ => rfl⟩
theorem Fr3.trans {p q : Nat} {h h1 h2 : AHeap} (a : Fr3 p q h h1) (b : Fr3 p q h1 h2) : Fr3 p q h h2 := ⟨Nat.le_trans a.1 b.1, fun x h1 h2 h3 => (b.2 x (Nat.lt_of_lt_of_le h1 a.1) h2 h3).trans (a.2 x h1 h2 h3)⟩
theorem Fr.fr3 {p q : Nat} {h h' : AHeap} (f : Fr h.n h h') : Fr3 p q h h' := ⟨f.n, fun _ hb _ _ => f.all hb⟩
/-- What is known, in memory. -/
structure CmV (h : AHeap) (lo bS bM : Nat) (k : Kn) : Prop where
  hlo : lo ≤ h.n
  ne : bS ≠ bM
  lS : bS < lo
  lM : bM < lo
  S : ∃ ver svs, h.get bS = some ⟨ver, .cells .own 1 svs⟩ ∧ svs.length = k.length ∧ ∀ (i : Nat) (x : Option (List Int)) (v : AV), k[i]? = some x → svs[i]? = some v → IntsC h (x.getD []) v ∧ LoV lo v
  M : ∃ ver, h.get bM = some ⟨ver, .cells .own 1 (k.map fun x => .bool x.isSome)⟩
theorem lov_keep {h h' : AHeap} {lo : Nat} {l : List Int} {v : AV} (hv : IntsC h l v) (hl : LoV lo v) (hn : h.n ≤ h'.n) (f : ∀ b, lo ≤ b → b < h.n → h'.get b = h.get b) : IntsC h' l v := by
  obtain ⟨h1, h2⟩ := hv
  have a1 : IntsV h' l v := by
    have hc := h1.forms
    rcases hc with ⟨rfl, h0⟩ | ⟨b, o, c, ex, rfl⟩
    · rw [List.length_eq_zero_iff.1 h0]; exact .nil
    · have hb := hl _ _ _ _ _ rfl
      by_cases h0 : l.length = 0
      · have : l = [] := List.length_eq_zero_iff.1 h0
        subst this; exact .emp
      · obtain ⟨b', o', c', ex', ver, md, bs, e, g1, g2, g3⟩ := h1.inv (by omega)
        cases e
        exact .row (by omega) h1.small (Nat.lt_of_lt_of_le g1 hn) ((f _ hb g1).trans g2) g3
  refine ⟨a1, h2.imp id ?_⟩
  rintro ⟨b, o, c, ex, e, h3, h4⟩
  refine ⟨b, o, c, ex, e, h3, h4.imp id ?_⟩
  rintro ⟨h5, ver, md, bs, h6, h7⟩
  exact ⟨h5, ver, md, bs, (f _ (hl _ _ _ _ _ e) h7).trans h6, Nat.lt_of_lt_of_le h7 hn⟩
theorem CmV.fr {h h' : AHeap} {lo bS bM : Nat} {k : Kn} (c : CmV h lo bS bM k) (f : Fr h.n h h') : CmV h' lo bS bM k := by
  obtain ⟨h1, h2, h3, h4, ⟨ver, svs, h5, h6, h7⟩, ver2, h8⟩ := c
  have hn := f.n
  exact ⟨by omega, h2, h3, h4, ⟨ver, svs, (f.all (by omega)).trans h5, h6, fun i x v a b => ⟨(h7 i x v a b).1.fr f, (h7 i x v a b).2⟩⟩, ver2, (f.all (by omega)).trans h8⟩
/-- An instruction is come to. -/
theorem CmV.step {h : AHeap} {lo bS bM n vs vm : Nat} {k : Kn} {s : List Int} {v : AV} {svs : List AV} (c : CmV h lo bS bM k) (hn : n < k.length) (hv : IntsC h s v) (hl : LoV lo v) (g : h.get bS = some ⟨vs, .cells .own 1 svs⟩) (g2 : h.get bM = some ⟨vm, .cells .own 1 (k.map fun x => .bool x.isSome)⟩) :
    CmV ((h.upd bM (vm + 1) (.cells .own 1 ((k.map fun x => AV.bool x.isSome).set n (.bool true)))).upd bS (vs + 1) (.cells .own 1 (svs.set n v))) lo bS bM (k.set n (some s)) := by
  obtain ⟨h1, h2, h3, h4, ⟨ver, svs', h5, h6, h7⟩, ver2, h8⟩ := c
  rw [g] at h5
  cases h5
  have hk : ∀ {l : List Int} {w : AV}, IntsC h l w → LoV lo w → IntsC ((h.upd bM (vm + 1) (.cells .own 1 ((k.map fun x => AV.bool x.isSome).set n (.bool true)))).upd bS (vs + 1) (.cells .own 1 (svs.set n v))) l w := fun hw hlo => lov_keep hw hlo (Nat.le_refl _) fun b hb hbn => by
    rw [AHeap.get_upd, if_neg (by omega), AHeap.get_upd, if_neg (by omega)]
  refine ⟨h1, h2, h3, h4, ⟨vs + 1, svs.set n v, by rw [AHeap.get_upd, if_pos rfl], by simp [h6], fun i x w a b => ?_⟩, vm + 1, ?_⟩
  · rw [List.getElem?_set] at a b
    by_cases e : n = i
    · subst e
      rw [if_pos rfl, if_pos hn] at a
      rw [if_pos rfl, if_pos (by omega)] at b
      cases a; cases b
      exact ⟨hk hv hl, hl⟩
    · rw [if_neg e] at a b
      obtain ⟨a1, a2⟩ := h7 i x w a b
      exact ⟨hk a1 a2, a2⟩
  · rw [AHeap.get_upd, if_neg (by omega), AHeap.get_upd, if_pos rfl]
    rw [List.map_set]; rfl
/-- A reader in memory, whose code is older. -/
structure RdC (hb h : AHeap) (r : Nat) (c : Cd) (fn : En) (st en : Int) (bS bM : Nat) : Prop where
  o1 : hb.n ≤ r
  o2 : hb.n ≤ bS
  o3 : hb.n ≤ bM
  n1 : r ≠ bS
  n2 : r ≠ bM
  hi : r < h.n
  fr : Fr hb.n hb h
  st : ∃ ver pv chv fv bv lv, h.get r = some ⟨ver, .cells .own 0 (cdC c pv chv fv bv ++ (enC fn lv ++ [.int .i64 st, .int .i64 en, .slice bS 0 c.body.length c.body.length true, .slice bM 0 c.body.length c.body.length true]))⟩ ∧ CdV hb c pv chv fv bv ∧ IntsC hb fn.locals lv
theorem RdC.rd {hb h : AHeap} {r : Nat} {c : Cd} {fn : En} {st en : Int} {bS bM : Nat} (k : RdC hb h r c fn st en bS bM) : RdV h r c fn st en (.slice bS 0 c.body.length c.body.length true) (.slice bM 0 c.body.length c.body.length true) := by
  obtain ⟨_, _, _, _, _, h1, h2, ver, pv, chv, fv, bv, lv, h3, h4, h5⟩ := k
  exact ⟨h1, ver, pv, chv, fv, bv, lv, h3, h4.fr h2, h5.fr h2⟩
theorem RdC.fr3 {hb h h' : AHeap} {r : Nat} {c : Cd} {fn : En} {st en : Int} {bS bM : Nat} (k : RdC hb h r c fn st en bS bM) (f : Fr3 bS bM h h') : RdC hb h' r c fn st en bS bM := by
  obtain ⟨a1, a2, a3, a4, a5, h1, h2, ver, pv, chv, fv, bv, lv, h3, h4, h5⟩ := k
  have hn := h2.n
  exact ⟨a1, a2, a3, a4, a5, Nat.lt_of_lt_of_le h1 f.1, ⟨Nat.le_trans h2.n f.1, fun b hb hne => (f.2 b (by omega) (by omega) (by omega)).trans (h2.all hb)⟩, ver, pv, chv, fv, bv, lv, (f.2 r h1 a4 a5).trans h3, h4, h5⟩
end Go.Ev
/- Proofread: coming to an instruction (the walk). -/
namespace Go.Ev
open Go
set_option maxRecDepth 100000
set_option maxHeartbeats 4000000

/-- What a call that comes to an instruction does. -/
def ComeQ (h : AHeap) (lo bS bM : Nat) (Q : QR) : Option Kn → Prop
  | none => ∀ h', Fr3 bS bM h h' → Q wrongP h'
  | some k' => ∀ h', Fr3 bS bM h h' → CmV h' lo bS bM k' → Q (.ret undefA) h'
def ComeS (f : Nat) (hb : AHeap) (r lo bS bM : Nat) (c : Cd) (fn : En) (st en : Int) : Prop := ∀ {h : AHeap} {k : Kn} {s : List Int} {at_ : Int} {v : AV} {Q : QR}, RdC hb h r c fn st en bS bM → CmV h lo bS bM k → IntsC h s v → LoV lo v → k.length = c.body.length → left k < f → ComeQ h lo bS bM Q (comeP c fn st en f at_ s k) → WF F 17 [.ptr r 0, .int .i64 at_, v] h Q
theorem come_step {f : Nat} {hb : AHeap} {r lo bS bM : Nat} {c : Cd} {fn : En} {st en : Int} (hI : ∀ x ∈ c.body, insB c x = true) (hF : ∀ f ∈ c.funcs, 0 ≤ f.params ∧ f.params ≤ f.locals.length) (h0 : 0 ≤ st) (he : en ≤ c.body.length) (hsm : c.body.length ≤ 8192) (ih : ComeS f hb r lo bS bM c fn st en) : ComeS (f + 1) hb r lo bS bM c fn st en := by
  intro h k s at_ v Q hR hC hv hlv hk hf hQ
  refine WF.code F17 rfl ?_
  have hfv := hv.1.flat
  obtain ⟨e1, e2, e3, e4, e5, hi, hbf, ver, pv, chv, fv, bv, lv, hr, hcd0, hloc0⟩ := id hR
  have hcd := hcd0.fr hbf
  have hloc := hloc0.fr hbf
  simp only [cdC, enC, List.cons_append, List.nil_append] at hr
  obtain ⟨hlo, hne, hlS, hlM, ⟨vs, svs, hS, hsl, hsr⟩, vm, hM⟩ := hC
  rw [comeP] at hQ
  simp (disch := first | omega | (simp only [hN] <;> omega) | fail) only [go_sem, simprocAttr, hr, hfv.1, hfv.2]
  refine want_cut0 (fun a h' => h' = h ∧ (st ≤ at_ ∧ at_ < en) ∧ a.tm.get 0 = some (.ptr r 0) ∧ a.tm.get 1 = some (.int .i64 at_) ∧ a.tm.get 2 = some v ∧ a.df = []) ?_ ?_
  · by_cases c1 : st ≤ at_
    · have g1 : decide (at_ ≥ st) = true := decide_eq_true c1
      simp (disch := first | omega | (simp only [hN] <;> omega) | fail) only [go_sem, simprocAttr, g1, hr, hfv.1, hfv.2]
      refine need_spec ?_
      by_cases c2 : at_ < en
      · rw [if_pos (decide_eq_true c2)]
        simp (disch := first | omega | (simp only [hN] <;> omega) | fail) only [go_sem, simprocAttr]
        exact ⟨c1, c2⟩
      · rw [if_neg (by simp; omega)]
        rw [if_neg (fun h => c2 h.2)] at hQ
        simp (disch := first | omega | (simp only [hN] <;> omega) | fail) only [go_sem, simprocAttr]
        exact hQ _ Fr3.refl
    · have g1 : decide (at_ ≥ st) = false := decide_eq_false c1
      simp (disch := first | omega | (simp only [hN] <;> omega) | fail) only [go_sem, simprocAttr, g1]
      refine need_spec ?_
      rw [if_neg (by decide)]
      rw [if_neg (fun h => c1 h.1)] at hQ
      simp (disch := first | omega | (simp only [hN] <;> omega) | fail) only [go_sem, simprocAttr]
      exact hQ _ Fr3.refl
  rintro ⟨t, df⟩ h' ⟨rfl, hin, k0, k1, k2, hdf⟩
  simp only at k0 k1 k2 hdf
  subst hdf
  rw [if_pos hin] at hQ
  obtain ⟨n, rfl⟩ := Int.eq_ofNat_of_zero_le (show 0 ≤ at_ by omega)
  rw [Int.toNat_natCast] at hQ
  have hn : n < c.body.length := by omega
  have hnk : n < k.length := by omega
  have i0 : ((n : Int) < (c.body.length : Int)) = True := by simp [hn]
  have hMn : (k.map fun x => AV.bool x.isSome)[n]? = some (.bool (k.getD n none).isSome) := by simp [hnk]
  simp (disch := first | omega | (simp only [hN] <;> omega) | fail) only [go_sem, simprocAttr, k0, k1, k2, hr, hM, hMn, i0, Nat.mul_one, Int.toNat_natCast]
  cases hkn : k.getD n none with
  | some s' =>
    have hkn' : k[n]? = some (some s') := by
      rw [List.getD_eq_getElem?_getD, List.getElem?_eq_getElem hnk] at hkn
      rw [List.getElem?_eq_getElem hnk]
      simpa using hkn
    have hsv : svs[n]? = some svs[n] := List.getElem?_eq_getElem (by omega)
    obtain ⟨hsi, _⟩ := hsr n _ _ hkn' hsv
    simp only [Option.getD_some] at hsi
    rw [hkn] at hQ
    simp only at hQ
    simp (disch := first | omega | (simp only [hN] <;> omega) | fail) only [go_sem, simprocAttr, k0, k1, k2, hr, hS, hsv, i0, Nat.mul_one, Int.toNat_natCast, hsi.1.flat.1, hsi.1.flat.2, hfv.1, hfv.2, Option.isSome_some]
    refine equal_spec hsi.1 hv.1 ?_
    simp (disch := first | omega | (simp only [hN] <;> omega) | fail) only [go_sem, simprocAttr]
    refine need_spec ?_
    by_cases e : s' = s
    · rw [if_pos (by simp [e])]
      rw [if_pos e] at hQ
      simp (disch := first | omega | (simp only [hN] <;> omega) | fail) only [go_sem, simprocAttr]
      exact hQ _ Fr3.refl ⟨hlo, hne, hlS, hlM, ⟨vs, svs, hS, hsl, hsr⟩, vm, hM⟩
    · rw [if_neg (by simp [e])]
      rw [if_neg e] at hQ
      simp (disch := first | omega | (simp only [hN] <;> omega) | fail) only [go_sem, simprocAttr]
      exact hQ _ Fr3.refl
  | none =>
    rw [hkn] at hQ
    have hstep := CmV.step ⟨hlo, hne, hlS, hlM, ⟨vs, svs, hS, hsl, hsr⟩, vm, hM⟩ hnk hv hlv hS hM
    have hleft := left_set (s := s) (getD_none hnk hkn)
    simp only at hQ
    obtain ⟨b', o, cp, ex, ver', md, bs, rfl, hb', hg, hrw⟩ := hcd0.body.inv (by omega)
    replace hg := (hbf.all hb').trans hg
    have hrow : ∀ i (hi : i < c.body.length), row bs (o + i * 5) 5 = some (insC c.body[i]) := by
      intro i hi
      rw [row_sub hrw (by omega)]
      exact flat_row (f := insC) (fun _ => rfl) (List.getElem?_eq_getElem hi)
    have hx : c.body.getD n zIns = c.body[n] := by simp [List.getD, hn]
    have hI' := hI _ (List.getElem_mem hn)
    have hrn := hrow n hn
    rw [hx] at hQ
    generalize c.body[n] = x at *
    have d1 : ¬ bM = bS := fun e => hne e.symm
    have q1 : n < (k.map fun x => AV.bool x.isSome).length := by simp; omega
    have q2 : n < svs.length := by omega
    have db1 : ¬ b' = bM := by omega
    have db2 : ¬ b' = bS := by omega
    simp (disch := first | omega | (simp only [hN] <;> omega) | fail) only [go_sem, simprocAttr, k0, k1, k2, hr, hS, hM, i0, Nat.mul_one, Int.toNat_natCast, hfv.1, hfv.2, Option.isSome_none, lay_one, hg, hrn, insC]
    generalize hHH : AHeap.upd (AHeap.alloc _ _) _ _ _ = H
    have hHn : H.n = h'.n + 1 := by rw [← hHH]; simp (disch := first | omega | (simp only [hN] <;> omega) | fail) only [go_sem, simprocAttr]
    have hHx : H.get h'.n = some ⟨1, .cells .own 0 (insC x)⟩ := by rw [← hHH]; simp (disch := first | omega | (simp only [hN] <;> omega) | fail) only [go_sem, simprocAttr, insC]; rfl
    have hH3 : Fr3 bS bM h' H := by
      rw [← hHH]
      refine ⟨by simp only [hN]; omega, fun b hb h1 h2 => by simp (disch := first | omega | (simp only [hN] <;> omega) | fail) only [go_sem, simprocAttr]⟩
    have hHC : CmV H lo bS bM (k.set n (some s)) := by
      rw [← hHH]
      exact hstep.fr ⟨by first | omega | (simp only [hN]; omega), fun b hb hne => by (try simp only [hN] at hb hne); simp (disch := first | omega | (simp only [hN] <;> omega) | fail) only [go_sem, simprocAttr]⟩
    have hHR := hR.fr3 hH3
    have hHv : IntsC H s v := by
      refine lov_keep hv hlv (by omega) fun b hb hbn => hH3.2 b hbn (by omega) (by omega)
    clear hHH hstep hS hM hsr hfv
    have hHi : ∀ {b : Nat}, b < h'.n → b ≠ bS → b ≠ bM → H.get b = h'.get b := fun h1 h2 h3 => hH3.2 _ h1 h2 h3
    have hr1 := (hHi hi e4 e5).trans hr
    have hg1 := (hHi (b := b') (by have := hbf.n; omega) db2 db1).trans hg
    have hk1 : (k.set n (some s)).length = c.body.length := by simp [hk]
    have hle1 : left (k.set n (some s)) < f := by omega
    have hHlv := hv.1.flat
    clear hr hg hv
    by_cases cj : (x.op = 12 ∨ x.op = 13 ∨ x.op = 14) ∧ ¬ ((n : Int) < x.a ∨ (c.body.getD x.a.toNat zIns).op = 24)
    · rw [if_pos cj] at hQ
      obtain ⟨cj1, cj2⟩ := cj
      have ha : 0 ≤ x.a ∧ x.a < c.body.length := by
        rcases cj1 with e | e | e <;> simp [insB, inside, e] at hI' <;> omega
      obtain ⟨m, hm⟩ := Int.eq_ofNat_of_zero_le ha.1
      have hml : m < c.body.length := by omega
      have hrm := hrow m hml
      rw [hm] at cj2
      rw [Int.toNat_natCast] at cj2
      have hxm : c.body.getD m zIns = c.body[m] := by simp [List.getD, hml]
      rw [hxm] at cj2
      generalize c.body[m] = y at *
      have g1 : decide ((m : Int) > (n : Int)) = false := decide_eq_false (by omega)
      have g2 : (y.op == 24) = false := by simp; intro e; exact cj2 (.inr e)
      have im : ((m : Int) < (c.body.length : Int)) = True := by simp [hml]
      have hym : bs[o + m * 5]? = some (.int .i64 y.op) := by
        have := row_get hrm (i := 0) (by decide)
        rwa [Nat.add_zero] at this
      rcases cj1 with e | e | e <;> simp (disch := first | omega | (simp only [hN] <;> omega) | fail) only [go_sem, simprocAttr, k0, k1, k2, e, hHx, insC, hm, g1, hr1, hg1, hym, g2, im, Int.toNat_natCast, Nat.add_zero]
      all_goals
        refine need_spec ?_
        rw [if_neg (by decide)]
        simp (disch := first | omega | (simp only [hN] <;> omega) | fail) only [go_sem, simprocAttr]
        exact hQ _ hH3
    · rw [if_neg cj] at hQ
      refine want_cut (fun a h2 => h2 = H ∧ a.tm.get 0 = some (.ptr r 0) ∧ a.tm.get 1 = some (.int .i64 (n : Int)) ∧ a.tm.get 2 = some v ∧ a.tm.get 6 = some (.ptr h'.n 0) ∧ a.df = []) ?_ ?_
      · clear hQ
        by_cases cj1 : x.op = 12 ∨ x.op = 13 ∨ x.op = 14
        · have cj2 : (n : Int) < x.a ∨ (c.body.getD x.a.toNat zIns).op = 24 := by
            by_cases e : (n : Int) < x.a ∨ (c.body.getD x.a.toNat zIns).op = 24
            · exact e
            · exact absurd ⟨cj1, e⟩ cj
          have ha : 0 ≤ x.a ∧ x.a < c.body.length := by
            rcases cj1 with e | e | e <;> simp [insB, inside, e] at hI' <;> omega
          obtain ⟨m, hm⟩ := Int.eq_ofNat_of_zero_le ha.1
          have hml : m < c.body.length := by omega
          have hrm := hrow m hml
          rw [hm] at cj2
          rw [Int.toNat_natCast] at cj2
          have hxm : c.body.getD m zIns = c.body[m] := by simp [List.getD, hml]
          rw [hxm] at cj2
          clear cj ha
          generalize c.body[m] = y at *
          have im : ((m : Int) < (c.body.length : Int)) = True := by simp [hml]
          have hym : bs[o + m * 5]? = some (.int .i64 y.op) := by
            have := row_get hrm (i := 0) (by decide)
            rwa [Nat.add_zero] at this
          by_cases ga : (n : Int) < (m : Int)
          · have g1 : decide ((m : Int) > (n : Int)) = true := decide_eq_true (by omega)
            rcases cj1 with e | e | e <;> simp (disch := first | omega | (simp only [hN] <;> omega) | fail) only [go_sem, simprocAttr, k0, k1, k2, e, hHx, insC, hm, g1]
            all_goals
              refine need_spec ?_
              rw [if_pos rfl]
              simp (disch := first | omega | (simp only [hN] <;> omega) | fail) only [go_sem, simprocAttr, k0, k1, k2]
          · have g1 : decide ((m : Int) > (n : Int)) = false := decide_eq_false (by omega)
            have g2 : (y.op == 24) = true := by
              rcases cj2 with e | e
              · exact absurd e ga
              · simp [e]
            rcases cj1 with e | e | e <;> simp (disch := first | omega | (simp only [hN] <;> omega) | fail) only [go_sem, simprocAttr, k0, k1, k2, e, hHx, insC, hm, g1, hr1, hg1, hym, g2, im, Int.toNat_natCast, Nat.add_zero]
            all_goals
              refine need_spec ?_
              rw [if_pos rfl]
              simp (disch := first | omega | (simp only [hN] <;> omega) | fail) only [go_sem, simprocAttr, k0, k1, k2]
        · have g12 : (x.op == 12) = false := by simp; exact fun e => cj1 (.inl e)
          have g13 : (x.op == 13) = false := by simp; exact fun e => cj1 (.inr (.inl e))
          have g14 : (x.op == 14) = false := by simp; exact fun e => cj1 (.inr (.inr e))
          simp (disch := first | omega | (simp only [hN] <;> omega) | fail) only [go_sem, simprocAttr, k0, k1, k2, hHx, insC, g12, g13, g14]
      clear k0 k1 k2 cj hr1 hg1 hrow hrn hrw
      rintro ⟨t, df⟩ h2 ⟨rfl, k0, k1, k2, k6, hdf⟩
      simp only at k0 k1 k2 k6 hdf
      subst hdf
      have hlov : ∀ {h3 : AHeap} {l : List Int} {w : AV}, Fr3 bS bM h2 h3 → IntsC h2 l w → LoV lo w → IntsC h3 l w := fun f3 hw hlw => lov_keep hw hlw f3.1 fun b hb hbn => f3.2 b hbn (by omega) (by omega)
      by_cases e12 : x.op = 12
      · rw [if_pos e12] at hQ
        simp (disch := first | omega | (simp only [hN] <;> omega) | fail) only [go_sem, simprocAttr, k0, k1, k2, k6, hHx, insC, e12, hHlv.1, hHlv.2]
        refine ih hHR hHC hHv hlv hk1 hle1 ?_
        revert hQ
        cases comeP c fn st en f x.a s (k.set n (some s)) with
        | none => exact fun hQ h3 hf3 => by simp (disch := first | omega | (simp only [hN] <;> omega) | fail) only [go_sem, simprocAttr]; exact hQ _ (hH3.trans hf3)
        | some k2 => exact fun hQ h3 hf3 hC3 => by simp (disch := first | omega | (simp only [hN] <;> omega) | fail) only [go_sem, simprocAttr]; exact hQ _ (hH3.trans hf3) hC3
      rw [if_neg e12] at hQ
      have g12 : (x.op == 12) = false := by simp [e12]
      by_cases e13 : x.op = 13
      · rw [if_pos e13] at hQ
        simp (disch := first | omega | (simp only [hN] <;> omega) | fail) only [go_sem, simprocAttr, k0, k1, k2, k6, hHx, insC, e13, hHlv.1, hHlv.2]
        have hF0 : Fr h2.n h2 (h2.alloc (.cells .own 1 [.int .i64 3])) := (Fr.refl _ _).alloc _
        refine pop_spec (l := s) (m := [3]) (hHv.fr hF0) (ints_new (ver := 0) (l := [3]) (by simp) (Nat.lt_succ_self _) (by (first | (simp (disch := first | omega | (simp only [hN] <;> omega) | fail) only [go_sem, simprocAttr]; done) | (simp (disch := first | omega | (simp only [hN] <;> omega) | fail) only [go_sem, simprocAttr]; rfl)))) ?_
        revert hQ
        cases popP s [3] with
        | none => exact fun hQ => by simp (disch := first | omega | (simp only [hN] <;> omega) | fail) only [go_sem, simprocAttr]; exact hQ _ (hH3.trans hF0.fr3)
        | some s1 =>
          intro hQ u hu hlu
          simp only [Option.bind_some] at hQ
          have hul := hlu lo hlv
          have huf := hu.1.flat
          simp (disch := first | omega | (simp only [hN] <;> omega) | fail) only [go_sem, simprocAttr, k0, k1, k2, k6, hHx, insC, e13, huf.1, huf.2]
          refine ih (hHR.fr3 hF0.fr3) (hHC.fr hF0) hu hul hk1 hle1 ?_
          revert hQ
          cases hc : comeP c fn st en f x.a s1 (k.set n (some s)) with
          | none => exact fun hQ h3 hf3 => by simp (disch := first | omega | (simp only [hN] <;> omega) | fail) only [go_sem, simprocAttr]; exact hQ _ ((hH3.trans hF0.fr3).trans hf3)
          | some kk =>
            intro hQ h3 hf3 hC3
            simp only [Option.bind_some] at hQ
            have hf23 := hF0.fr3.trans hf3
            have hlc := comeP_left f (by simp [hk]; omega) h0 hc
            rw [hk1] at hlc
            simp (disch := first | omega | (simp only [hN] <;> omega) | fail) only [go_sem, simprocAttr, k0, k1, k2, k6, huf.1, huf.2]
            refine ih (hHR.fr3 hf23) hC3 (lov_keep hu hul hf3.1 fun b hb hbn => hf3.2 b hbn (by omega) (by omega)) hul hlc.1 (by omega) ?_
            revert hQ
            cases comeP c fn st en f ((n : Int) + 1) s1 kk with
            | none => exact fun hQ h4 hf4 => by simp (disch := first | omega | (simp only [hN] <;> omega) | fail) only [go_sem, simprocAttr]; exact hQ _ ((hH3.trans hf23).trans hf4)
            | some k3 => exact fun hQ h4 hf4 hC4 => by simp (disch := first | omega | (simp only [hN] <;> omega) | fail) only [go_sem, simprocAttr]; exact hQ _ ((hH3.trans hf23).trans hf4) hC4
      rw [if_neg e13] at hQ
      have g13 : (x.op == 13) = false := by simp [e13]
      by_cases e14 : x.op = 14
      · rw [if_pos e14] at hQ
        simp (disch := first | omega | (simp only [hN] <;> omega) | fail) only [go_sem, simprocAttr, k0, k1, k2, k6, hHx, insC, e14, hHlv.1, hHlv.2]
        refine ih hHR hHC hHv hlv hk1 hle1 ?_
        revert hQ
        cases hc : comeP c fn st en f x.a s (k.set n (some s)) with
        | none => exact fun hQ h3 hf3 => by simp (disch := first | omega | (simp only [hN] <;> omega) | fail) only [go_sem, simprocAttr]; exact hQ _ (hH3.trans hf3)
        | some kk =>
          intro hQ h3 hf3 hC3
          simp only [Option.bind_some] at hQ
          have hlc := comeP_left f (by simp [hk]; omega) h0 hc
          rw [hk1] at hlc
          have hv3 := hlov hf3 hHv hlv
          have hF0 : Fr h3.n h3 (h3.alloc (.cells .own 1 [.int .i64 3])) := (Fr.refl _ _).alloc _
          simp (disch := first | omega | (simp only [hN] <;> omega) | fail) only [go_sem, simprocAttr, k0, k1, k2, k6, hHlv.1, hHlv.2]
          refine pop_spec (l := s) (m := [3]) (hv3.fr hF0) (ints_new (ver := 0) (l := [3]) (by simp) (Nat.lt_succ_self _) (by (first | (simp (disch := first | omega | (simp only [hN] <;> omega) | fail) only [go_sem, simprocAttr]; done) | (simp (disch := first | omega | (simp only [hN] <;> omega) | fail) only [go_sem, simprocAttr]; rfl)))) ?_
          revert hQ
          cases popP s [3] with
          | none => exact fun hQ => by simp (disch := first | omega | (simp only [hN] <;> omega) | fail) only [go_sem, simprocAttr]; exact hQ _ ((hH3.trans hf3).trans hF0.fr3)
          | some s1 =>
            intro hQ u hu hlu
            simp only [Option.bind_some] at hQ
            have hul := hlu lo hlv
            have huf := hu.1.flat
            simp (disch := first | omega | (simp only [hN] <;> omega) | fail) only [go_sem, simprocAttr, k0, k1, k2, k6, huf.1, huf.2]
            refine ih ((hHR.fr3 hf3).fr3 hF0.fr3) (hC3.fr hF0) hu hul hlc.1 (by omega) ?_
            revert hQ
            cases comeP c fn st en f ((n : Int) + 1) s1 kk with
            | none => exact fun hQ h4 hf4 => by simp (disch := first | omega | (simp only [hN] <;> omega) | fail) only [go_sem, simprocAttr]; exact hQ _ (((hH3.trans hf3).trans hF0.fr3).trans hf4)
            | some k3 => exact fun hQ h4 hf4 hC4 => by simp (disch := first | omega | (simp only [hN] <;> omega) | fail) only [go_sem, simprocAttr]; exact hQ _ (((hH3.trans hf3).trans hF0.fr3).trans hf4) hC4
      rw [if_neg e14] at hQ
      have g14 : (x.op == 14) = false := by simp [e14]
      simp (disch := first | omega | (simp only [hN] <;> omega) | fail) only [go_sem, simprocAttr, k0, k1, k2, k6, hHx, insC, g12, g13, g14, hHlv.1, hHlv.2]
      refine does_spec (x := x) hI' hF hHR.rd hHv ?_
      revert hQ
      cases doesP c fn x s with
      | none => exact fun hQ h3 hf3 => by simp (disch := first | omega | (simp only [hN] <;> omega) | fail) only [go_sem, simprocAttr]; exact hQ _ (hH3.trans hf3.fr3)
      | some s1 =>
        intro hQ h3 u hf3 hu hlu
        have hn3 := hf3.n; try simp only [hN] at hn3
        simp only [Option.bind_some] at hQ
        have hul := hlu lo (by omega) hlv
        have huf := hu.1.flat
        have hx3 := (hf3.all (b := h'.n) (by omega)).trans hHx
        have hC3 := hHC.fr hf3
        by_cases e25 : x.op = 25
        · rw [if_pos (.inl e25)] at hQ
          simp (disch := first | omega | (simp only [hN] <;> omega) | fail) only [go_sem, simprocAttr, k0, k1, k2, k6, hx3, insC, e25]
          exact hQ _ (hH3.trans hf3.fr3) hC3
        by_cases e26 : x.op = 26
        · rw [if_pos (.inr e26)] at hQ
          simp (disch := first | omega | (simp only [hN] <;> omega) | fail) only [go_sem, simprocAttr, k0, k1, k2, k6, hx3, insC, e26]
          exact hQ _ (hH3.trans hf3.fr3) hC3
        rw [if_neg (fun h => h.elim e25 e26)] at hQ
        have g25 : (x.op != 25) = true := by simp [e25]
        have g26 : (x.op != 26) = true := by simp [e26]
        simp (disch := first | omega | (simp only [hN] <;> omega) | fail) only [go_sem, simprocAttr, k0, k1, k2, k6, hx3, insC, g25, g26, huf.1, huf.2]
        refine ih (hHR.fr3 hf3.fr3) hC3 hu hul hk1 hle1 ?_
        revert hQ
        cases comeP c fn st en f ((n : Int) + 1) s1 (k.set n (some s)) with
        | none => exact fun hQ h4 hf4 => by simp (disch := first | omega | (simp only [hN] <;> omega) | fail) only [go_sem, simprocAttr]; exact hQ _ ((hH3.trans hf3.fr3).trans hf4)
        | some k3 => exact fun hQ h4 hf4 hC4 => by simp (disch := first | omega | (simp only [hN] <;> omega) | fail) only [go_sem, simprocAttr]; exact hQ _ ((hH3.trans hf3.fr3).trans hf4) hC4
theorem come_spec {hb : AHeap} {r lo bS bM : Nat} {c : Cd} {fn : En} {st en : Int} (hI : ∀ x ∈ c.body, insB c x = true) (hF : ∀ f ∈ c.funcs, 0 ≤ f.params ∧ f.params ≤ f.locals.length) (h0 : 0 ≤ st) (he : en ≤ c.body.length) (hsm : c.body.length ≤ 8192) : ∀ f, ComeS f hb r lo bS bM c fn st en
  | 0 => fun _ _ _ _ _ h => absurd h (Nat.not_lt_zero _)
  | f + 1 => come_step hI hF h0 he hsm (come_spec hI hF h0 he hsm f)
end Go.Ev
