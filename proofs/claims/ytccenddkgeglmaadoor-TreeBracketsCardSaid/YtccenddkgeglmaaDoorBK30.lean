/- Trees: how many nodes they have, how deep they are. -/
import Derived.Test.YtccenddkgeglmaaDoorBK27
import Derived.Test.YtccenddkgeglmaaDoorL10
set_option linter.all false
set_option linter.unusedVariables false
set_option linter.unusedSimpArgs false
namespace Go.Ev
open Go
set_option maxRecDepth 100000
set_option maxHeartbeats 4000000

theorem RowsR.get {lo : Nat} {h : AHeap} : {ns : List Nd} → {css : List AV} → RowsR lo h ns css → ∀ {i : Nat} (hi : i < ns.length), ∃ kv, row css (i * 9) 9 = some (ndC ns[i] kv) ∧ KidsR lo h ns[i].kids kv
  | _, _, .nil, i, hi => absurd hi (Nat.not_lt_zero _)
  | _, _, .cons (n := n) (ns := ns) (kv := kv) (css := css) k r, 0, _ => by
    refine ⟨kv, ?_, k⟩
    have : ((ndC n kv ++ css).drop 0).take 9 = ndC n kv := by simp [ndC]
    unfold row
    rw [Nat.zero_mul, ble_nat, decide_eq_true (by simp [ndC])]
    simp [ndC]
  | _, _, .cons (n := n) (ns := ns) (kv := kv) (css := css) k r, i + 1, hi => by
    obtain ⟨kv', h1, h2⟩ := r.get (i := i) (by simpa using hi)
    refine ⟨kv', ?_, h2⟩
    have e : (i + 1) * 9 = i * 9 + 1 + 1 + 1 + 1 + 1 + 1 + 1 + 1 + 1 := by omega
    rw [e]
    simp only [ndC, List.cons_append, List.nil_append, row_tl]
    exact h1

theorem KidsR.len {lo : Nat} {h : AHeap} {ns : List Nd} {v : AV} (k : KidsR lo h ns v) : lenA v = some (ns.length : Int) := by
  cases k <;> rfl
theorem count_spec : ∀ (s : Nat) {nd : Nd}, nd.count ≤ s → s < 2 ^ 62 → ∀ {lo : Nat} {h : AHeap} {kv : AV} {Q : QR}, KidsR lo h nd.kids kv → (∀ h', Fr h.n h h' → Q (.ret (.int .i64 (nd.count : Int))) h') → WF F 28 [.agg (ndC nd kv)] h Q := by
  intro s
  induction s with
  | zero => intro nd h0; cases nd; simp [Nd.count] at h0
  | succ s ih =>
    intro nd hs hs2 lo h kv Q hk hQ
    have hcnt : nd.count = 1 + cntL nd.kids := by cases nd; rfl
    generalize nd.kids = ks at hk hcnt
    refine WF.code F28 rfl ?_
    simp (maxSteps := 9999999) (disch := first | omega | (simp only [hN] <;> omega) | fail) only [go_sem, simprocAttr, hk.flat.1, hk.flat.2, hk.len]
    refine wp_loop (fun n a h' => ∃ i : Nat, n = ks.length - i ∧ i ≤ ks.length ∧ Fr h.n h h' ∧ a.tm.get 3 = some (.int .i64 ((1 + cntL (ks.take i) : Nat) : Int)) ∧ a.tm.get 7 = some kv ∧ a.tm.get 8 = some (.int .i64 (ks.length : Int)) ∧ a.tm.get 9 = some (.int .i64 (i : Int)) ∧ a.df = []) ?_ ks.length ?_
    · rintro n ⟨t, df⟩ h2 ⟨i, hn, hi, hf2, k3, k7, k8, k9, hdf⟩
      simp only at k3 k7 k8 k9 hdf
      subst hdf
      have hn2 := hf2.n; try simp only [AHeap.alloc_n, AHeap.upd_n] at hn2
      simp (maxSteps := 9999999) (disch := first | omega | (simp only [hN] <;> omega) | fail) only [go_sem, simprocAttr, k8, k9]
      (first | refine condP_splitN (fun hlt => ?_) (fun hlt => ?_) | refine wantP_splitN (fun hlt => ?_) (fun hlt => ?_) | refine wantPD_splitN (fun hlt => ?_) (fun hlt => ?_) | refine condP_split (fun hlt => ?_) (fun hlt => ?_) | refine wantP_split (fun hlt => ?_) (fun hlt => ?_) | refine wantPD_split (fun hlt => ?_) (fun hlt => ?_))
      · have hil : i < ks.length := (by have := of_decide_eq_true hlt; omega)
        have hstep := cntL_take hil
        have hle := cntL_le (ns := ks) (i + 1)
        cases hk with
        | nil => simp at hil
        | emp => simp at hil
        | row g1 g2 g3 g4 gr g5 =>
          rename_i b ver o c md ex bs css
          obtain ⟨kv', hr, hk'⟩ := g5.get hil
          rw [← row_sub (o := o) gr (by omega)] at hr
          have g4' : h2.get b = some ⟨ver, .cells md 9 bs⟩ := by rw [hf2.all g3]; exact g4
          generalize ks[i] = m at hr hk' hstep
          simp (maxSteps := 9999999) (disch := first | omega | (simp only [hN] <;> omega) | fail) only [go_sem, simprocAttr, k3, k7, k8, k9, Int.toNat_natCast, g4', hr, hk'.flat.1, hk'.flat.2]
          refine ih (by omega) (by omega) (hk'.keep (Nat.le_refl _) (by simp (maxSteps := 9999999) (disch := first | omega | (simp only [hN] <;> omega) | fail) only [go_sem, simprocAttr]; omega) fun b' hb1 hb2 => ?_) ?_
          · simp (maxSteps := 9999999) (disch := first | omega | (simp only [hN] <;> omega) | fail) only [go_sem, simprocAttr, hf2.old]
          · intro h3 hf3
            have hn3 := hf3.n; try simp only [AHeap.alloc_n, AHeap.upd_n] at hn3
            have hlen := len_le_cnt ks
            have hb1 : 1 + cntL (ks.take i) + m.count < 2 ^ 62 := by omega
            have hcast : some (AV.int .i64 (((1 + cntL (ks.take i) : Nat) : Int) + (m.count : Int))) = some (AV.int .i64 ((1 + cntL (ks.take (i + 1)) : Nat) : Int)) := by
              have : (((1 + cntL (ks.take i) : Nat) : Int) + (m.count : Int)) = ((1 + cntL (ks.take (i + 1)) : Nat) : Int) := by omega
              rw [this]
            simp (maxSteps := 9999999) (disch := first | omega | (simp only [hN] <;> omega) | fail) only [go_sem, simprocAttr, k3, k7, k8, k9]
            exact ⟨_, hn ▸ Nat.sub_lt_sub_left hil (Nat.lt_succ_self i), i + 1, rfl, hil, ⟨by (first | omega | (simp only [AHeap.alloc_n, AHeap.upd_n]; omega)), fun b hb hne => by (try simp only [AHeap.alloc_n, AHeap.upd_n] at hb hne); simp (maxSteps := 9999999) (disch := first | omega | (simp only [hN] <;> omega) | fail) only [go_sem, simprocAttr, hf3.old, hf2.old]⟩, hcast, rfl⟩
      · have hil : i = ks.length := by have := of_decide_eq_false hlt; omega
        subst hil
        rw [List.take_length] at k3
        simp (maxSteps := 9999999) (disch := first | omega | (simp only [hN] <;> omega) | fail) only [go_sem, simprocAttr, k3]
        rw [← hcnt]
        exact hQ _ hf2
    · exact ⟨0, rfl, Nat.zero_le _, ⟨by (first | omega | (simp only [AHeap.alloc_n, AHeap.upd_n]; omega)), fun b hb hne => by (try simp only [AHeap.alloc_n, AHeap.upd_n] at hb hne); simp (maxSteps := 9999999) (disch := first | omega | (simp only [hN] <;> omega) | fail) only [go_sem, simprocAttr]⟩, by (first | (simp (maxSteps := 9999999) (disch := first | omega | (simp only [hN] <;> omega) | fail) only [go_sem, simprocAttr]; done) | (simp (maxSteps := 9999999) (disch := first | omega | (simp only [hN] <;> omega) | fail) only [go_sem, simprocAttr]; rfl)), by simp (maxSteps := 9999999) (disch := first | omega | (simp only [hN] <;> omega) | fail) only [go_sem, simprocAttr], by simp (maxSteps := 9999999) (disch := first | omega | (simp only [hN] <;> omega) | fail) only [go_sem, simprocAttr], by (first | (simp (maxSteps := 9999999) (disch := first | omega | (simp only [hN] <;> omega) | fail) only [go_sem, simprocAttr]; done) | (simp (maxSteps := 9999999) (disch := first | omega | (simp only [hN] <;> omega) | fail) only [go_sem, simprocAttr]; rfl)), by simp (maxSteps := 9999999) (disch := first | omega | (simp only [hN] <;> omega) | fail) only [go_sem, simprocAttr]⟩
theorem mx_max {x y : Nat} : mxA true (.int .i64 (x : Int)) [.int .i64 (y : Int)] = some (.int .i64 ((max x y : Nat) : Int)) := by
  have e : (bif decide ((y : Int) > (x : Int)) then (y : Int) else (x : Int)) = ((max x y : Nat) : Int) := by
    by_cases h : y > x
    · rw [decide_eq_true (by omega)]; simp only [cond_true]; omega
    · rw [decide_eq_false (by omega)]; simp only [cond_false]; omega
  simp only [mxA, cond_true, e]
theorem depth_spec : ∀ (s : Nat) {nd : Nd}, nd.count ≤ s → s < 2 ^ 62 → ∀ {lo : Nat} {h : AHeap} {kv : AV} {Q : QR}, KidsR lo h nd.kids kv → (∀ h', Fr h.n h h' → Q (.ret (.int .i64 (nd.depth : Int))) h') → WF F 29 [.agg (ndC nd kv)] h Q := by
  intro s
  induction s with
  | zero => intro nd h0; cases nd; simp [Nd.count] at h0
  | succ s ih =>
    intro nd hs hs2 lo h kv Q hk hQ
    have hcnt : nd.count = 1 + cntL nd.kids := by cases nd; rfl
    have hdpt : nd.depth = 1 + dptL nd.kids := by cases nd; rfl
    have hdle := depth_le nd
    generalize nd.kids = ks at hk hcnt hdpt
    refine WF.code F29 rfl ?_
    simp (maxSteps := 9999999) (disch := first | omega | (simp only [hN] <;> omega) | fail) only [go_sem, simprocAttr, hk.flat.1, hk.flat.2, hk.len]
    refine wp_loop (fun n a h' => ∃ i : Nat, n = ks.length - i ∧ i ≤ ks.length ∧ Fr h.n h h' ∧ a.tm.get 3 = some (.int .i64 ((dptL (ks.take i) : Nat) : Int)) ∧ a.tm.get 7 = some kv ∧ a.tm.get 8 = some (.int .i64 (ks.length : Int)) ∧ a.tm.get 9 = some (.int .i64 (i : Int)) ∧ a.df = []) ?_ ks.length ?_
    · rintro n ⟨t, df⟩ h2 ⟨i, hn, hi, hf2, k3, k7, k8, k9, hdf⟩
      simp only at k3 k7 k8 k9 hdf
      subst hdf
      have hn2 := hf2.n; try simp only [AHeap.alloc_n, AHeap.upd_n] at hn2
      simp (maxSteps := 9999999) (disch := first | omega | (simp only [hN] <;> omega) | fail) only [go_sem, simprocAttr, k8, k9]
      (first | refine condP_splitN (fun hlt => ?_) (fun hlt => ?_) | refine wantP_splitN (fun hlt => ?_) (fun hlt => ?_) | refine wantPD_splitN (fun hlt => ?_) (fun hlt => ?_) | refine condP_split (fun hlt => ?_) (fun hlt => ?_) | refine wantP_split (fun hlt => ?_) (fun hlt => ?_) | refine wantPD_split (fun hlt => ?_) (fun hlt => ?_))
      · have hil : i < ks.length := (by have := of_decide_eq_true hlt; omega)
        have hstep := cntL_take hil
        have hle := cntL_le (ns := ks) (i + 1)
        have hdst := dptL_take hil
        cases hk with
        | nil => simp at hil
        | emp => simp at hil
        | row g1 g2 g3 g4 gr g5 =>
          rename_i b ver o c md ex bs css
          obtain ⟨kv', hr, hk'⟩ := g5.get hil
          rw [← row_sub (o := o) gr (by omega)] at hr
          have g4' : h2.get b = some ⟨ver, .cells md 9 bs⟩ := by rw [hf2.all g3]; exact g4
          generalize ks[i] = m at hr hk' hstep hdst
          simp (maxSteps := 9999999) (disch := first | omega | (simp only [hN] <;> omega) | fail) only [go_sem, simprocAttr, k3, k7, k8, k9, Int.toNat_natCast, g4', hr, hk'.flat.1, hk'.flat.2]
          refine ih (by omega) (by omega) (hk'.keep (Nat.le_refl _) (by simp (maxSteps := 9999999) (disch := first | omega | (simp only [hN] <;> omega) | fail) only [go_sem, simprocAttr]; omega) fun b' hb1 hb2 => ?_) ?_
          · simp (maxSteps := 9999999) (disch := first | omega | (simp only [hN] <;> omega) | fail) only [go_sem, simprocAttr, hf2.old]
          · intro h3 hf3
            have hn3 := hf3.n; try simp only [AHeap.alloc_n, AHeap.upd_n] at hn3
            have hlen := len_le_cnt ks
            have hb1 : 1 + cntL (ks.take i) + m.count < 2 ^ 62 := by omega
            simp (maxSteps := 9999999) (disch := first | omega | (simp only [hN] <;> omega) | fail) only [go_sem, simprocAttr, k3, k7, k8, k9, mx_max]
            exact ⟨_, hn ▸ Nat.sub_lt_sub_left hil (Nat.lt_succ_self i), i + 1, rfl, hil, ⟨by (first | omega | (simp only [AHeap.alloc_n, AHeap.upd_n]; omega)), fun b hb hne => by (try simp only [AHeap.alloc_n, AHeap.upd_n] at hb hne); simp (maxSteps := 9999999) (disch := first | omega | (simp only [hN] <;> omega) | fail) only [go_sem, simprocAttr, hf3.old, hf2.old]⟩, by rw [hdst], rfl⟩
      · have hil : i = ks.length := by have := of_decide_eq_false hlt; omega
        subst hil
        rw [List.take_length] at k3
        simp (maxSteps := 9999999) (disch := first | omega | (simp only [hN] <;> omega) | fail) only [go_sem, simprocAttr, k3]
        have e : ((dptL ks : Int) + 1) = (nd.depth : Int) := by omega
        rw [e]
        exact hQ _ hf2
    · exact ⟨0, rfl, Nat.zero_le _, ⟨by (first | omega | (simp only [AHeap.alloc_n, AHeap.upd_n]; omega)), fun b hb hne => by (try simp only [AHeap.alloc_n, AHeap.upd_n] at hb hne); simp (maxSteps := 9999999) (disch := first | omega | (simp only [hN] <;> omega) | fail) only [go_sem, simprocAttr]⟩, by (first | (simp (maxSteps := 9999999) (disch := first | omega | (simp only [hN] <;> omega) | fail) only [go_sem, simprocAttr]; done) | (simp (maxSteps := 9999999) (disch := first | omega | (simp only [hN] <;> omega) | fail) only [go_sem, simprocAttr]; rfl)), by simp (maxSteps := 9999999) (disch := first | omega | (simp only [hN] <;> omega) | fail) only [go_sem, simprocAttr], by simp (maxSteps := 9999999) (disch := first | omega | (simp only [hN] <;> omega) | fail) only [go_sem, simprocAttr], by (first | (simp (maxSteps := 9999999) (disch := first | omega | (simp only [hN] <;> omega) | fail) only [go_sem, simprocAttr]; done) | (simp (maxSteps := 9999999) (disch := first | omega | (simp only [hN] <;> omega) | fail) only [go_sem, simprocAttr]; rfl)), by simp (maxSteps := 9999999) (disch := first | omega | (simp only [hN] <;> omega) | fail) only [go_sem, simprocAttr]⟩
end Go.Ev
