/- Trees, as the document's own functions see them: which are the same. -/
import Derived.Test.YtccenddkgeglmaaDoorSK25
set_option linter.all false
set_option linter.unusedVariables false
set_option linter.unusedSimpArgs false
namespace Go.Ev
open Go
set_option maxRecDepth 100000
set_option maxHeartbeats 4000000

theorem rsame_spec (pl : Bool) : ∀ (s : Nat) {n m : Nd}, n.count ≤ s → ∀ {lo : Nat} {h : AHeap} {kv kw : AV} {Q : QR}, KidsR lo h n.kids kv → KidsR lo h m.kids kw → (∀ h', Fr h.n h h' → Q (.ret (.bool (n.sameP pl m))) h') → WF F 21 [.agg (ndC n kv), .agg (ndC m kw), .bool pl] h Q := by
  intro s
  induction s with
  | zero => intro n m h0; have := count_pos n; omega
  | succ s ih =>
    intro n m hc lo h kv kw Q hk hm hQ
    rw [sameP_eq] at hQ
    have hcnt : n.count = 1 + cntL n.kids := by cases n; rfl
    refine WF.code F21 rfl ?_
    generalize e1 : (n.kind == m.kind) = b1 at hQ
    generalize e2 : (n.name == m.name) = b2 at hQ
    generalize e3 : (n.typ == m.typ) = b3 at hQ
    generalize e4 : (n.n == m.n) = b4 at hQ
    generalize e5 : (n.size == m.size) = b5 at hQ
    generalize e6 : (n.obj == m.obj) = b6 at hQ
    generalize e7 : (n.bits == m.bits) = b7 at hQ
    generalize e8 : (n.pos == m.pos) = b8 at hQ
    have hf : Fr h.n h ((h.alloc (.cells .own 0 (ndC n kv))).alloc (.cells .own 0 (ndC m kw))) := ⟨by (first | omega | (simp only [AHeap.alloc_n, AHeap.upd_n]; omega)), fun b hb hne => by (try simp only [AHeap.alloc_n, AHeap.upd_n] at hb hne); simp (maxSteps := 9999999) (disch := first | omega | (simp only [hN] <;> omega) | fail) only [go_sem, simprocAttr]⟩
    cases b1
    · simp (maxSteps := 9999999) (disch := first | omega | (simp only [hN] <;> omega) | fail) only [go_sem, simprocAttr, hk.flat.1, hk.flat.2, hm.flat.1, hm.flat.2, bne, e1]
      exact hQ _ hf
    cases b2
    · simp (maxSteps := 9999999) (disch := first | omega | (simp only [hN] <;> omega) | fail) only [go_sem, simprocAttr, hk.flat.1, hk.flat.2, hm.flat.1, hm.flat.2, bne, e1, e2]
      exact hQ _ hf
    cases b3
    · simp (maxSteps := 9999999) (disch := first | omega | (simp only [hN] <;> omega) | fail) only [go_sem, simprocAttr, hk.flat.1, hk.flat.2, hm.flat.1, hm.flat.2, bne, e1, e2, e3]
      exact hQ _ hf
    cases b4
    · simp (maxSteps := 9999999) (disch := first | omega | (simp only [hN] <;> omega) | fail) only [go_sem, simprocAttr, hk.flat.1, hk.flat.2, hm.flat.1, hm.flat.2, bne, e1, e2, e3, e4]
      exact hQ _ hf
    cases b5
    · simp (maxSteps := 9999999) (disch := first | omega | (simp only [hN] <;> omega) | fail) only [go_sem, simprocAttr, hk.flat.1, hk.flat.2, hm.flat.1, hm.flat.2, bne, e1, e2, e3, e4, e5]
      exact hQ _ hf
    cases b6
    · simp (maxSteps := 9999999) (disch := first | omega | (simp only [hN] <;> omega) | fail) only [go_sem, simprocAttr, hk.flat.1, hk.flat.2, hm.flat.1, hm.flat.2, bne, e1, e2, e3, e4, e5, e6]
      exact hQ _ hf
    cases b7
    · simp (maxSteps := 9999999) (disch := first | omega | (simp only [hN] <;> omega) | fail) only [go_sem, simprocAttr, hk.flat.1, hk.flat.2, hm.flat.1, hm.flat.2, bne, e1, e2, e3, e4, e5, e6, e7]
      exact hQ _ hf
    generalize hks : n.kids = ks at hk hcnt hQ
    generalize hms : m.kids = ms at hm hQ
    have hsk := hk.small
    have hsm := hm.small
    by_cases hl : ks.length = ms.length
    · have el : ((ks.length : Int) == (ms.length : Int)) = true := by simp [hl]
      cases pl
      · simp (maxSteps := 9999999) (disch := first | omega | (simp only [hN] <;> omega) | fail) only [go_sem, simprocAttr, hk.flat.1, hk.flat.2, hm.flat.1, hm.flat.2, bne, e1, e2, e3, e4, e5, e6, e7, el, hk.len, hm.len]
        generalize hH : AHeap.alloc _ _ = h0
        have hn0 : h0.n = h.n + 2 := by rw [← hH]; simp (maxSteps := 9999999) (disch := first | omega | (simp only [hN] <;> omega) | fail) only [go_sem, simprocAttr]
        have hq0 : h0.get h.n = some ⟨0, .cells .own 0 [.int .i64 n.kind, .int .i64 n.pos, .str n.name, .int .i64 n.typ, .int .i64 n.n, .int .i64 n.size, .int .i64 n.obj, .int .u64 n.bits, kv]⟩ := by rw [← hH]; simp (maxSteps := 9999999) (disch := first | omega | (simp only [hN] <;> omega) | fail) only [go_sem, simprocAttr]
        have hq1 : h0.get (h.n + 1) = some ⟨0, .cells .own 0 [.int .i64 m.kind, .int .i64 m.pos, .str m.name, .int .i64 m.typ, .int .i64 m.n, .int .i64 m.size, .int .i64 m.obj, .int .u64 m.bits, kw]⟩ := by rw [← hH]; simp (maxSteps := 9999999) (disch := first | omega | (simp only [hN] <;> omega) | fail) only [go_sem, simprocAttr]
        have ho : ∀ b, b < h.n → h0.get b = h.get b := fun b hb => by rw [← hH]; simp (maxSteps := 9999999) (disch := first | omega | (simp only [hN] <;> omega) | fail) only [go_sem, simprocAttr]
        clear hH
        refine wp_loop (fun n a h' => ∃ i : Nat, n = ks.length - i ∧ i ≤ ks.length ∧ Fr (h.n + 2) h0 h' ∧ samePL false ks ms = samePL false (ks.drop i) (ms.drop i) ∧ a.tm.get 2 = some (.bool false) ∧ a.tm.get 3 = some (.ptr h.n 0) ∧ a.tm.get 4 = some (.ptr (h.n + 1) 0) ∧ a.tm.get 76 = some (.int .i64 (ks.length : Int)) ∧ a.tm.get 77 = some (.int .i64 (i : Int)) ∧ a.df = []) ?_ ks.length ?_
        · rintro w ⟨t, df⟩ h2 ⟨i, hn, hi, hf2, hsm2, k2, k3, k4, k76, k77, hdf⟩
          simp only at k2 k3 k4 k76 k77 hdf
          subst hdf
          have hn2 := hf2.n
          have q0 := (hf2.old h.n (by omega) (by omega)).trans hq0
          have q1 := (hf2.old (h.n + 1) (by omega) (by omega)).trans hq1
          simp (maxSteps := 9999999) (disch := first | omega | (simp only [hN] <;> omega) | fail) only [go_sem, simprocAttr, k76, k77]
          (first | refine condP_splitN (fun hlt => ?_) (fun hlt => ?_) | refine wantP_splitN (fun hlt => ?_) (fun hlt => ?_) | refine wantPD_splitN (fun hlt => ?_) (fun hlt => ?_) | refine condP_split (fun hlt => ?_) (fun hlt => ?_) | refine wantP_split (fun hlt => ?_) (fun hlt => ?_) | refine wantPD_split (fun hlt => ?_) (fun hlt => ?_))
          · have hil : i < ks.length := (by have := of_decide_eq_true hlt; omega)
            have him : i < ms.length := by omega
            have hcs := cntL_take hil
            have hcl := cntL_le (ns := ks) (i + 1)
            have hd1 : ks.drop i = ks[i] :: ks.drop (i + 1) := List.drop_eq_getElem_cons hil
            have hd2 : ms.drop i = ms[i] :: ms.drop (i + 1) := List.drop_eq_getElem_cons him
            rw [hd1, hd2, samePL] at hsm2
            cases hk with
            | nil => simp at hil
            | emp => simp at hil
            | row g1 g0 g2 g3 g4 gr g5 =>
              rename_i b ver o c md ex bs css
              cases hm with
              | nil => simp at him
              | emp => simp at him
              | row f1 f0 f2 f3 f4 fr f5 =>
                rename_i b' ver' o' c' md' ex' bs' css'
                obtain ⟨kv', hr, hk'⟩ := g5.get hil
                obtain ⟨kw', hr', hm'⟩ := f5.get him
                rw [← row_sub (o := o) gr (by omega)] at hr
                rw [← row_sub (o := o') fr (by omega)] at hr'
                have g4' : h2.get b = some ⟨ver, .cells md 9 bs⟩ := by rw [hf2.old b (by omega) (by omega), ho b g3]; exact g4
                have f4' : h2.get b' = some ⟨ver', .cells md' 9 bs'⟩ := by rw [hf2.old b' (by omega) (by omega), ho b' f3]; exact f4
                have hfo : ∀ b, b < h.n → h2.get b = h.get b := fun b hb => by rw [hf2.old b (by omega) (by omega), ho b hb]
                generalize ks[i] = n1 at hr hk' hcs hsm2
                generalize ms[i] = m1 at hr' hm' hsm2
                have c1 : decide ((i : Int) < (ms.length : Int)) = true := decide_eq_true (by omega)
                simp (maxSteps := 9999999) (disch := first | omega | (simp only [hN] <;> omega) | fail) only [go_sem, simprocAttr, k2, k3, k4, k76, k77, q0, q1, Int.toNat_natCast, g4', f4', hr, hr', hk'.flat.1, hk'.flat.2, hm'.flat.1, hm'.flat.2, c1]
                refine ih (by omega) (hk'.keep (Nat.le_refl _) (by omega) fun x hb1 hb2 => hfo x hb2) (hm'.keep (Nat.le_refl _) (by omega) fun x hb1 hb2 => hfo x hb2) ?_
                intro h3 hf3
                have hn3 := hf3.n
                cases hb : n1.sameP false m1 with
                | true =>
                  rw [hb, Bool.true_and] at hsm2
                  simp (maxSteps := 9999999) (disch := first | omega | (simp only [hN] <;> omega) | fail) only [go_sem, simprocAttr, k2, k3, k4, k76, k77]
                  exact ⟨_, hn ▸ Nat.sub_lt_sub_left hil (Nat.lt_succ_self i), i + 1, rfl, hil, ⟨by omega, fun b hb hne => by rw [hf3.all (by omega), hf2.old b hb hne]⟩, hsm2, rfl⟩
                | false =>
                  rw [hb, Bool.false_and] at hsm2
                  simp (maxSteps := 9999999) (disch := first | omega | (simp only [hN] <;> omega) | fail) only [go_sem, simprocAttr]
                  rw [hsm2, Bool.and_false] at hQ
                  exact hQ _ ⟨by omega, fun b hb _ => by rw [hf3.all (by omega), hfo b hb]⟩
          · have hil : i = ks.length := by have := of_decide_eq_false hlt; omega
            subst hil
            rw [List.drop_length, hl, List.drop_length] at hsm2
            simp (maxSteps := 9999999) (disch := first | omega | (simp only [hN] <;> omega) | fail) only [go_sem, simprocAttr]
            rw [show samePL false ks ms = true from hsm2] at hQ
            exact hQ _ ⟨by omega, fun b hb _ => by rw [hf2.old b (by omega) (by omega), ho b hb]⟩
        · exact ⟨0, rfl, Nat.zero_le _, Fr.refl _ _, rfl, by simp (maxSteps := 9999999) (disch := first | omega | (simp only [hN] <;> omega) | fail) only [go_sem, simprocAttr], by simp (maxSteps := 9999999) (disch := first | omega | (simp only [hN] <;> omega) | fail) only [go_sem, simprocAttr], by simp (maxSteps := 9999999) (disch := first | omega | (simp only [hN] <;> omega) | fail) only [go_sem, simprocAttr], by simp (maxSteps := 9999999) (disch := first | omega | (simp only [hN] <;> omega) | fail) only [go_sem, simprocAttr], by (first | (simp (maxSteps := 9999999) (disch := first | omega | (simp only [hN] <;> omega) | fail) only [go_sem, simprocAttr]; done) | (simp (maxSteps := 9999999) (disch := first | omega | (simp only [hN] <;> omega) | fail) only [go_sem, simprocAttr]; rfl)), by simp (maxSteps := 9999999) (disch := first | omega | (simp only [hN] <;> omega) | fail) only [go_sem, simprocAttr]⟩
      · cases b8
        · simp (maxSteps := 9999999) (disch := first | omega | (simp only [hN] <;> omega) | fail) only [go_sem, simprocAttr, hk.flat.1, hk.flat.2, hm.flat.1, hm.flat.2, bne, e1, e2, e3, e4, e5, e6, e7, el, e8, hk.len, hm.len]
          exact hQ _ hf
        · simp (maxSteps := 9999999) (disch := first | omega | (simp only [hN] <;> omega) | fail) only [go_sem, simprocAttr, hk.flat.1, hk.flat.2, hm.flat.1, hm.flat.2, bne, e1, e2, e3, e4, e5, e6, e7, el, e8, hk.len, hm.len]
          generalize hH : AHeap.alloc _ _ = h0
          have hn0 : h0.n = h.n + 2 := by rw [← hH]; simp (maxSteps := 9999999) (disch := first | omega | (simp only [hN] <;> omega) | fail) only [go_sem, simprocAttr]
          have hq0 : h0.get h.n = some ⟨0, .cells .own 0 [.int .i64 n.kind, .int .i64 n.pos, .str n.name, .int .i64 n.typ, .int .i64 n.n, .int .i64 n.size, .int .i64 n.obj, .int .u64 n.bits, kv]⟩ := by rw [← hH]; simp (maxSteps := 9999999) (disch := first | omega | (simp only [hN] <;> omega) | fail) only [go_sem, simprocAttr]
          have hq1 : h0.get (h.n + 1) = some ⟨0, .cells .own 0 [.int .i64 m.kind, .int .i64 m.pos, .str m.name, .int .i64 m.typ, .int .i64 m.n, .int .i64 m.size, .int .i64 m.obj, .int .u64 m.bits, kw]⟩ := by rw [← hH]; simp (maxSteps := 9999999) (disch := first | omega | (simp only [hN] <;> omega) | fail) only [go_sem, simprocAttr]
          have ho : ∀ b, b < h.n → h0.get b = h.get b := fun b hb => by rw [← hH]; simp (maxSteps := 9999999) (disch := first | omega | (simp only [hN] <;> omega) | fail) only [go_sem, simprocAttr]
          clear hH
          refine wp_loop (fun n a h' => ∃ i : Nat, n = ks.length - i ∧ i ≤ ks.length ∧ Fr (h.n + 2) h0 h' ∧ samePL true ks ms = samePL true (ks.drop i) (ms.drop i) ∧ a.tm.get 2 = some (.bool true) ∧ a.tm.get 3 = some (.ptr h.n 0) ∧ a.tm.get 4 = some (.ptr (h.n + 1) 0) ∧ a.tm.get 76 = some (.int .i64 (ks.length : Int)) ∧ a.tm.get 77 = some (.int .i64 (i : Int)) ∧ a.df = []) ?_ ks.length ?_
          · rintro w ⟨t, df⟩ h2 ⟨i, hn, hi, hf2, hsm2, k2, k3, k4, k76, k77, hdf⟩
            simp only at k2 k3 k4 k76 k77 hdf
            subst hdf
            have hn2 := hf2.n
            have q0 := (hf2.old h.n (by omega) (by omega)).trans hq0
            have q1 := (hf2.old (h.n + 1) (by omega) (by omega)).trans hq1
            simp (maxSteps := 9999999) (disch := first | omega | (simp only [hN] <;> omega) | fail) only [go_sem, simprocAttr, k76, k77]
            (first | refine condP_splitN (fun hlt => ?_) (fun hlt => ?_) | refine wantP_splitN (fun hlt => ?_) (fun hlt => ?_) | refine wantPD_splitN (fun hlt => ?_) (fun hlt => ?_) | refine condP_split (fun hlt => ?_) (fun hlt => ?_) | refine wantP_split (fun hlt => ?_) (fun hlt => ?_) | refine wantPD_split (fun hlt => ?_) (fun hlt => ?_))
            · have hil : i < ks.length := (by have := of_decide_eq_true hlt; omega)
              have him : i < ms.length := by omega
              have hcs := cntL_take hil
              have hcl := cntL_le (ns := ks) (i + 1)
              have hd1 : ks.drop i = ks[i] :: ks.drop (i + 1) := List.drop_eq_getElem_cons hil
              have hd2 : ms.drop i = ms[i] :: ms.drop (i + 1) := List.drop_eq_getElem_cons him
              rw [hd1, hd2, samePL] at hsm2
              cases hk with
              | nil => simp at hil
              | emp => simp at hil
              | row g1 g0 g2 g3 g4 gr g5 =>
                rename_i b ver o c md ex bs css
                cases hm with
                | nil => simp at him
                | emp => simp at him
                | row f1 f0 f2 f3 f4 fr f5 =>
                  rename_i b' ver' o' c' md' ex' bs' css'
                  obtain ⟨kv', hr, hk'⟩ := g5.get hil
                  obtain ⟨kw', hr', hm'⟩ := f5.get him
                  rw [← row_sub (o := o) gr (by omega)] at hr
                  rw [← row_sub (o := o') fr (by omega)] at hr'
                  have g4' : h2.get b = some ⟨ver, .cells md 9 bs⟩ := by rw [hf2.old b (by omega) (by omega), ho b g3]; exact g4
                  have f4' : h2.get b' = some ⟨ver', .cells md' 9 bs'⟩ := by rw [hf2.old b' (by omega) (by omega), ho b' f3]; exact f4
                  have hfo : ∀ b, b < h.n → h2.get b = h.get b := fun b hb => by rw [hf2.old b (by omega) (by omega), ho b hb]
                  generalize ks[i] = n1 at hr hk' hcs hsm2
                  generalize ms[i] = m1 at hr' hm' hsm2
                  have c1 : decide ((i : Int) < (ms.length : Int)) = true := decide_eq_true (by omega)
                  simp (maxSteps := 9999999) (disch := first | omega | (simp only [hN] <;> omega) | fail) only [go_sem, simprocAttr, k2, k3, k4, k76, k77, q0, q1, Int.toNat_natCast, g4', f4', hr, hr', hk'.flat.1, hk'.flat.2, hm'.flat.1, hm'.flat.2, c1]
                  refine ih (by omega) (hk'.keep (Nat.le_refl _) (by omega) fun x hb1 hb2 => hfo x hb2) (hm'.keep (Nat.le_refl _) (by omega) fun x hb1 hb2 => hfo x hb2) ?_
                  intro h3 hf3
                  have hn3 := hf3.n
                  cases hb : n1.sameP true m1 with
                  | true =>
                    rw [hb, Bool.true_and] at hsm2
                    simp (maxSteps := 9999999) (disch := first | omega | (simp only [hN] <;> omega) | fail) only [go_sem, simprocAttr, k2, k3, k4, k76, k77]
                    exact ⟨_, hn ▸ Nat.sub_lt_sub_left hil (Nat.lt_succ_self i), i + 1, rfl, hil, ⟨by omega, fun b hb hne => by rw [hf3.all (by omega), hf2.old b hb hne]⟩, hsm2, rfl⟩
                  | false =>
                    rw [hb, Bool.false_and] at hsm2
                    simp (maxSteps := 9999999) (disch := first | omega | (simp only [hN] <;> omega) | fail) only [go_sem, simprocAttr]
                    rw [hsm2, Bool.and_false] at hQ
                    exact hQ _ ⟨by omega, fun b hb _ => by rw [hf3.all (by omega), hfo b hb]⟩
            · have hil : i = ks.length := by have := of_decide_eq_false hlt; omega
              subst hil
              rw [List.drop_length, hl, List.drop_length] at hsm2
              simp (maxSteps := 9999999) (disch := first | omega | (simp only [hN] <;> omega) | fail) only [go_sem, simprocAttr]
              rw [show samePL true ks ms = true from hsm2] at hQ
              exact hQ _ ⟨by omega, fun b hb _ => by rw [hf2.old b (by omega) (by omega), ho b hb]⟩
          · exact ⟨0, rfl, Nat.zero_le _, Fr.refl _ _, rfl, by simp (maxSteps := 9999999) (disch := first | omega | (simp only [hN] <;> omega) | fail) only [go_sem, simprocAttr], by simp (maxSteps := 9999999) (disch := first | omega | (simp only [hN] <;> omega) | fail) only [go_sem, simprocAttr], by simp (maxSteps := 9999999) (disch := first | omega | (simp only [hN] <;> omega) | fail) only [go_sem, simprocAttr], by simp (maxSteps := 9999999) (disch := first | omega | (simp only [hN] <;> omega) | fail) only [go_sem, simprocAttr], by (first | (simp (maxSteps := 9999999) (disch := first | omega | (simp only [hN] <;> omega) | fail) only [go_sem, simprocAttr]; done) | (simp (maxSteps := 9999999) (disch := first | omega | (simp only [hN] <;> omega) | fail) only [go_sem, simprocAttr]; rfl)), by simp (maxSteps := 9999999) (disch := first | omega | (simp only [hN] <;> omega) | fail) only [go_sem, simprocAttr]⟩
    · have el : ((ks.length : Int) == (ms.length : Int)) = false := by simp; omega
      simp (maxSteps := 9999999) (disch := first | omega | (simp only [hN] <;> omega) | fail) only [go_sem, simprocAttr, hk.flat.1, hk.flat.2, hm.flat.1, hm.flat.2, bne, e1, e2, e3, e4, e5, e6, e7, el, hk.len, hm.len]
      have hx : samePL pl ks ms = false := by
        cases hx : samePL pl ks ms with
        | false => rfl
        | true => exact absurd (samePL_len hx) hl
      rw [hx, Bool.and_false] at hQ
      exact hQ _ hf
end Go.Ev
/- The statement on trees that are the same. -/
namespace Go.Ev
open Go
set_option maxRecDepth 100000
set_option maxHeartbeats 4000000

theorem tsame_law {a b : Nd} {kv kw : AV} {h : AHeap} (hG : GH h) (ka : KidsR 0 h a.kids kv) (kb : KidsR 0 h b.kids kw) : WF F 11 [.agg (ndC a kv), .agg (ndC b kw)] h (fun r _ => r = .ret (.bool true)) := by
  refine WF.code F11 rfl ?_
  simp (maxSteps := 9999999) (disch := first | omega | (simp only [hN] <;> omega) | fail) only [go_sem, simprocAttr, ka.flat.1, ka.flat.2, kb.flat.1, kb.flat.2]
  have hn0 := hG.n
  generalize hH : AHeap.alloc _ _ = H
  have hHn : H.n = h.n + 2 := by rw [← hH]; simp (maxSteps := 9999999) (disch := first | omega | (simp only [hN] <;> omega) | fail) only [go_sem, simprocAttr]
  have hq0 : H.get h.n = some ⟨0, .cells .own 0 (ndC a kv)⟩ := by rw [← hH]; simp (maxSteps := 9999999) (disch := first | omega | (simp only [hN] <;> omega) | fail) only [go_sem, simprocAttr]
  have hq1 : H.get (h.n + 1) = some ⟨0, .cells .own 0 (ndC b kw)⟩ := by rw [← hH]; simp (maxSteps := 9999999) (disch := first | omega | (simp only [hN] <;> omega) | fail) only [go_sem, simprocAttr]
  have hHf : Fr h.n h H := ⟨by omega, fun b hb _ => by rw [← hH]; simp (maxSteps := 9999999) (disch := first | omega | (simp only [hN] <;> omega) | fail) only [go_sem, simprocAttr]⟩
  have hGH := hHf.gh hn0 hG
  have ka := ka.fr hHf (.inr (Nat.le_refl _))
  have kb := kb.fr hHf (.inr (Nat.le_refl _))
  clear hH
  refine alive06 hGH ?_
  intro h1 hf1
  have hn1 := hf1.n; try simp only [AHeap.alloc_n, AHeap.upd_n] at hn1
  have a0 := (hf1.all (b := h.n) (by omega)).trans hq0
  have a1 := (hf1.all (b := h.n + 1) (by omega)).trans hq1
  have ka1 := ka.fr hf1 (.inr (Nat.le_refl _))
  have kb1 := kb.fr hf1 (.inr (Nat.le_refl _))
  generalize h.n = B at *
  clear hGH hHf hq0 hq1 ka kb hf1 hn0 hG
  simp (maxSteps := 9999999) (disch := first | omega | (simp only [hN] <;> omega) | fail) only [go_sem, simprocAttr, a0, a1, ka1.flat.1, ka1.flat.2, kb1.flat.1, kb1.flat.2]
  refine nodes_spec a.count (m := 3000) (Nat.le_refl _) (by decide) ka1 ?_
  intro h2 hf2
  have hn2 := hf2.n; try simp only [AHeap.alloc_n, AHeap.upd_n] at hn2
  have b0 := (hf2.all (b := B) (by omega)).trans a0
  have b1 := (hf2.all (b := B + 1) (by omega)).trans a1
  have ka2 := ka1.fr hf2 (.inr (Nat.le_refl _))
  have kb2 := kb1.fr hf2 (.inr (Nat.le_refl _))
  by_cases c1 : 3000 < a.count
  · have e1 : decide (((min a.count (3000 + 1) : Nat) : Int) > 3000) = true := decide_eq_true (by omega)
    generalize min a.count (3000 + 1) = x1 at e1
    simp (maxSteps := 9999999) (disch := first | omega | (simp only [hN] <;> omega) | fail) only [go_sem, simprocAttr, e1]
  have e1 : decide (((min a.count (3000 + 1) : Nat) : Int) > 3000) = false := decide_eq_false (by omega)
  generalize min a.count (3000 + 1) = x1 at e1
  simp (maxSteps := 9999999) (disch := first | omega | (simp only [hN] <;> omega) | fail) only [go_sem, simprocAttr, e1, b0, b1, ka1.flat.1, ka1.flat.2, kb1.flat.1, kb1.flat.2]
  clear ka1 kb1 a0 a1
  refine nodes_spec b.count (m := 3000) (Nat.le_refl _) (by decide) kb2 ?_
  intro h3 hf3
  have hn3 := hf3.n; try simp only [AHeap.alloc_n, AHeap.upd_n] at hn3
  have a0 := (hf3.all (b := B) (by omega)).trans b0
  have a1 := (hf3.all (b := B + 1) (by omega)).trans b1
  have ka3 := ka2.fr hf3 (.inr (Nat.le_refl _))
  have kb3 := kb2.fr hf3 (.inr (Nat.le_refl _))
  by_cases c2 : 3000 < b.count
  · have e2 : decide (((min b.count (3000 + 1) : Nat) : Int) > 3000) = true := decide_eq_true (by omega)
    generalize min b.count (3000 + 1) = x2 at e2
    simp (maxSteps := 9999999) (disch := first | omega | (simp only [hN] <;> omega) | fail) only [go_sem, simprocAttr, e2]
  have e2 : decide (((min b.count (3000 + 1) : Nat) : Int) > 3000) = false := decide_eq_false (by omega)
  generalize min b.count (3000 + 1) = x2 at e2
  simp (maxSteps := 9999999) (disch := first | omega | (simp only [hN] <;> omega) | fail) only [go_sem, simprocAttr, e2, a0, a1, ka3.flat.1, ka3.flat.2, kb3.flat.1, kb3.flat.2]
  clear ka2 kb2 b0 b1
  refine deep_spec a.count (m := 500) (Nat.le_refl _) (by decide) ka3 ?_
  intro h4 hf4
  have hn4 := hf4.n; try simp only [AHeap.alloc_n, AHeap.upd_n] at hn4
  have b0 := (hf4.all (b := B) (by omega)).trans a0
  have b1 := (hf4.all (b := B + 1) (by omega)).trans a1
  have ka4 := ka3.fr hf4 (.inr (Nat.le_refl _))
  have kb4 := kb3.fr hf4 (.inr (Nat.le_refl _))
  by_cases c3 : 500 < a.depth
  · have e3 : decide (((min a.depth (500 + 1) : Nat) : Int) > 500) = true := decide_eq_true (by omega)
    generalize min a.depth (500 + 1) = x3 at e3
    simp (maxSteps := 9999999) (disch := first | omega | (simp only [hN] <;> omega) | fail) only [go_sem, simprocAttr, e3]
  have e3 : decide (((min a.depth (500 + 1) : Nat) : Int) > 500) = false := decide_eq_false (by omega)
  generalize min a.depth (500 + 1) = x3 at e3
  simp (maxSteps := 9999999) (disch := first | omega | (simp only [hN] <;> omega) | fail) only [go_sem, simprocAttr, e3, b0, b1, ka4.flat.1, ka4.flat.2, kb4.flat.1, kb4.flat.2]
  clear ka3 kb3 a0 a1
  refine deep_spec b.count (m := 500) (Nat.le_refl _) (by decide) kb4 ?_
  intro h5 hf5
  have hn5 := hf5.n; try simp only [AHeap.alloc_n, AHeap.upd_n] at hn5
  have a0 := (hf5.all (b := B) (by omega)).trans b0
  have a1 := (hf5.all (b := B + 1) (by omega)).trans b1
  have ka5 := ka4.fr hf5 (.inr (Nat.le_refl _))
  have kb5 := kb4.fr hf5 (.inr (Nat.le_refl _))
  by_cases c4 : 500 < b.depth
  · have e4 : decide (((min b.depth (500 + 1) : Nat) : Int) > 500) = true := decide_eq_true (by omega)
    generalize min b.depth (500 + 1) = x4 at e4
    simp (maxSteps := 9999999) (disch := first | omega | (simp only [hN] <;> omega) | fail) only [go_sem, simprocAttr, e4]
  have e4 : decide (((min b.depth (500 + 1) : Nat) : Int) > 500) = false := decide_eq_false (by omega)
  generalize min b.depth (500 + 1) = x4 at e4
  simp (maxSteps := 9999999) (disch := first | omega | (simp only [hN] <;> omega) | fail) only [go_sem, simprocAttr, e4, a0, a1, ka5.flat.1, ka5.flat.2, kb5.flat.1, kb5.flat.2]
  clear ka4 kb4 b0 b1 hf2 hf3 hf4 hf5 e1 e2 e3 e4
  have hB5 : B + 2 ≤ h5.n := by omega
  clear hn1 hn2 hn3 hn4 hn5 hHn
  have ca : a.count ≤ 3000 := by omega
  have cb : b.count ≤ 3000 := by omega
  refine same_spec 3000 (by decide) ca ka5 kb5 ?_
  intro h6 hf6
  have hn6 := hf6.n; try simp only [AHeap.alloc_n, AHeap.upd_n] at hn6
  have b0 := (hf6.all (b := B) (by omega)).trans a0
  have b1 := (hf6.all (b := B + 1) (by omega)).trans a1
  have ka6 := ka5.fr hf6 (.inr (Nat.le_refl _))
  have kb6 := kb5.fr hf6 (.inr (Nat.le_refl _))
  simp (maxSteps := 9999999) (disch := first | omega | (simp only [hN] <;> omega) | fail) only [go_sem, simprocAttr, a0, a1, b0, b1, ka5.flat.1, ka5.flat.2, kb5.flat.1, kb5.flat.2]
  refine rsame_spec false 3000 ca ka6 kb6 ?_
  intro h7 hf7
  have hn7 := hf7.n; try simp only [AHeap.alloc_n, AHeap.upd_n] at hn7
  have d0 := (hf7.all (b := B) (by omega)).trans b0
  have d1 := (hf7.all (b := B + 1) (by omega)).trans b1
  have ka7 := ka6.fr hf7 (.inr (Nat.le_refl _))
  have kb7 := kb6.fr hf7 (.inr (Nat.le_refl _))
  rw [sameP_false]
  have ee : eqT (.one .bool) (.bool (a.same b)) (.bool (a.same b)) = some true := by cases a.same b <;> rfl
  generalize a.same b = sb at ee
  simp (maxSteps := 9999999) (disch := first | omega | (simp only [hN] <;> omega) | fail) only [go_sem, simprocAttr, a0, a1, b0, b1, d0, d1, ee, ka5.flat.1, ka5.flat.2, kb5.flat.1, kb5.flat.2]
  refine same_spec 3000 (by decide) ca ka7 ka7 ?_
  intro h8 hf8
  have hn8 := hf8.n; try simp only [AHeap.alloc_n, AHeap.upd_n] at hn8
  have f0 := (hf8.all (b := B) (by omega)).trans d0
  have f1 := (hf8.all (b := B + 1) (by omega)).trans d1
  have ka8 := ka7.fr hf8 (.inr (Nat.le_refl _))
  have kb8 := kb7.fr hf8 (.inr (Nat.le_refl _))
  rw [same_refl]
  simp (maxSteps := 9999999) (disch := first | omega | (simp only [hN] <;> omega) | fail) only [go_sem, simprocAttr, a0, a1, b0, b1, d0, d1, f0, f1, ka5.flat.1, ka5.flat.2, kb5.flat.1, kb5.flat.2]
  refine count_spec 3000 ca (by decide) ka8 ?_
  intro h9 hf9
  have hn9 := hf9.n; try simp only [AHeap.alloc_n, AHeap.upd_n] at hn9
  have g0 := (hf9.all (b := B) (by omega)).trans f0
  have g1 := (hf9.all (b := B + 1) (by omega)).trans f1
  have ka9 := ka8.fr hf9 (.inr (Nat.le_refl _))
  have kb9 := kb8.fr hf9 (.inr (Nat.le_refl _))
  simp (maxSteps := 9999999) (disch := first | omega | (simp only [hN] <;> omega) | fail) only [go_sem, simprocAttr, a0, a1, b0, b1, d0, d1, f0, f1, g0, g1, ka5.flat.1, ka5.flat.2, kb5.flat.1, kb5.flat.2]
  refine nodes_spec 3000 (m := 1073741824) ca (by decide) ka9 ?_
  intro h10 hf10
  have hn10 := hf10.n; try simp only [AHeap.alloc_n, AHeap.upd_n] at hn10
  have i0 := (hf10.all (b := B) (by omega)).trans g0
  have i1 := (hf10.all (b := B + 1) (by omega)).trans g1
  have ka10 := ka9.fr hf10 (.inr (Nat.le_refl _))
  have kb10 := kb9.fr hf10 (.inr (Nat.le_refl _))
  rw [show min a.count (1073741824 + 1) = a.count by omega]
  simp (maxSteps := 9999999) (disch := first | omega | (simp only [hN] <;> omega) | fail) only [go_sem, simprocAttr, a0, a1, b0, b1, d0, d1, f0, f1, g0, g1, i0, i1, ka5.flat.1, ka5.flat.2, kb5.flat.1, kb5.flat.2]
  have db := depth_le b
  refine depth_spec 3000 cb (by decide) kb10 ?_
  intro h11 hf11
  have hn11 := hf11.n; try simp only [AHeap.alloc_n, AHeap.upd_n] at hn11
  have j0 := (hf11.all (b := B) (by omega)).trans i0
  have j1 := (hf11.all (b := B + 1) (by omega)).trans i1
  have kb11 := kb10.fr hf11 (.inr (Nat.le_refl _))
  simp (maxSteps := 9999999) (disch := first | omega | (simp only [hN] <;> omega) | fail) only [go_sem, simprocAttr, a0, a1, b0, b1, d0, d1, f0, f1, g0, g1, i0, i1, j0, j1, ka5.flat.1, ka5.flat.2, kb5.flat.1, kb5.flat.2]
  refine deep_spec 3000 (m := 1073741824) cb (by decide) kb11 ?_
  intro h12 hf12
  have hn12 := hf12.n; try simp only [AHeap.alloc_n, AHeap.upd_n] at hn12
  rw [show min b.depth (1073741824 + 1) = b.depth by omega]
  have l0 := (hf12.all (b := B) (by omega)).trans j0
  have l1 := (hf12.all (b := B + 1) (by omega)).trans j1
  simp (maxSteps := 9999999) (disch := first | omega | (simp only [hN] <;> omega) | fail) only [go_sem, simprocAttr, a0, a1, b0, b1, d0, d1, f0, f1, g0, g1, i0, i1, j0, j1, l0, l1, ka5.flat.1, ka5.flat.2, kb5.flat.1, kb5.flat.2]
end Go.Ev
