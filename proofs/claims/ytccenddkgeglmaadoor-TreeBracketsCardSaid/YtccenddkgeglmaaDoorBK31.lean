/- Trees: which are the same. -/
import Derived.Test.YtccenddkgeglmaaDoorBK30
set_option linter.all false
set_option linter.unusedVariables false
set_option linter.unusedSimpArgs false
namespace Go.Ev
open Go
set_option maxRecDepth 100000
set_option maxHeartbeats 4000000

theorem sameL_len : ∀ {a b : List Nd}, sameL a b = true → a.length = b.length
  | [], [], _ => rfl
  | x :: a, y :: b, h => by simp only [sameL, Bool.and_eq_true] at h; simp [sameL_len h.2]
  | [], y :: b, h => by simp [sameL] at h
  | x :: a, [], h => by simp [sameL] at h
def SameFn (s : Nat) : Prop := ∀ {n m : Nd}, n.count ≤ s → ∀ {lo : Nat} {h : AHeap} {kv kw : AV} {Q : QR}, KidsR lo h n.kids kv → KidsR lo h m.kids kw → (∀ h', Fr h.n h h' → Q (.ret (.bool (n.same m))) h') → WF F 27 [.agg (ndC n kv), .agg (ndC m kw)] h Q
theorem equal_spec {s : Nat} (hS : SameFn s) {ks ms : List Nd} (hs : cntL ks ≤ s) (hs2 : s < 2 ^ 62) {lo : Nat} {h : AHeap} {kv kw : AV} {Q : QR} (hk : KidsR lo h ks kv) (hm : KidsR lo h ms kw) (hQ : ∀ h', Fr h.n h h' → Q (.ret (.bool (sameL ks ms))) h') : WF F 46 [kv, kw, .func (.func 27) [] []] h Q := by
  refine WF.code F46 rfl ?_
  simp (maxSteps := 9999999) (disch := first | omega | (simp only [hN] <;> omega) | fail) only [go_sem, simprocAttr, hk.len, hm.len]
  have hlc := len_le_cnt ks
  by_cases hl : ks.length = ms.length
  · have e : ((ks.length : Int) != (ms.length : Int)) = false := by simp [hl]
    simp (maxSteps := 9999999) (disch := first | omega | (simp only [hN] <;> omega) | fail) only [go_sem, simprocAttr, e, hk.len]
    refine wp_loop (fun n a h' => ∃ i : Nat, n = ks.length - i ∧ i ≤ ks.length ∧ Fr h.n h h' ∧ sameL ks ms = sameL (ks.drop i) (ms.drop i) ∧ a.tm.get 1 = some kw ∧ a.tm.get 2 = some (.func (.func 27) [] []) ∧ a.tm.get 15 = some kv ∧ a.tm.get 16 = some (.int .i64 (ks.length : Int)) ∧ a.tm.get 17 = some (.int .i64 (i : Int)) ∧ a.df = []) ?_ ks.length ?_
    · rintro n ⟨t, df⟩ h2 ⟨i, hn, hi, hf2, hsm, k1, k2, k15, k16, k17, hdf⟩
      simp only at k1 k2 k15 k16 k17 hdf
      subst hdf
      have hn2 := hf2.n; try simp only [AHeap.alloc_n, AHeap.upd_n] at hn2
      simp (maxSteps := 9999999) (disch := first | omega | (simp only [hN] <;> omega) | fail) only [go_sem, simprocAttr, k16, k17]
      (first | refine condP_splitN (fun hlt => ?_) (fun hlt => ?_) | refine wantP_splitN (fun hlt => ?_) (fun hlt => ?_) | refine wantPD_splitN (fun hlt => ?_) (fun hlt => ?_) | refine condP_split (fun hlt => ?_) (fun hlt => ?_) | refine wantP_split (fun hlt => ?_) (fun hlt => ?_) | refine wantPD_split (fun hlt => ?_) (fun hlt => ?_))
      · have hil : i < ks.length := (by have := of_decide_eq_true hlt; omega)
        have him : i < ms.length := by omega
        have hcs := cntL_take hil
        have hcl := cntL_le (ns := ks) (i + 1)
        have hd1 : ks.drop i = ks[i] :: ks.drop (i + 1) := List.drop_eq_getElem_cons hil
        have hd2 : ms.drop i = ms[i] :: ms.drop (i + 1) := List.drop_eq_getElem_cons him
        rw [hd1, hd2, sameL] at hsm
        cases hk with
        | nil => simp at hil
        | emp => simp at hil
        | row g1 g2 g3 g4 gr g5 =>
          rename_i b ver o c md ex bs css
          cases hm with
          | nil => simp at him
          | emp => simp at him
          | row f1 f2 f3 f4 fr f5 =>
            rename_i b' ver' o' c' md' ex' bs' css'
            obtain ⟨kv', hr, hk'⟩ := g5.get hil
            obtain ⟨kw', hr', hm'⟩ := f5.get him
            rw [← row_sub (o := o) gr (by omega)] at hr
            rw [← row_sub (o := o') fr (by omega)] at hr'
            have g4' : h2.get b = some ⟨ver, .cells md 9 bs⟩ := by rw [hf2.all g3]; exact g4
            have f4' : h2.get b' = some ⟨ver', .cells md' 9 bs'⟩ := by rw [hf2.all f3]; exact f4
            generalize ks[i] = n1 at hr hk' hcs hsm
            generalize ms[i] = m1 at hr' hm' hsm
            have c1 : decide ((i : Int) < (ms.length : Int)) = true := decide_eq_true (by omega)
            simp (maxSteps := 9999999) (disch := first | omega | (simp only [hN] <;> omega) | fail) only [go_sem, simprocAttr, k1, k2, k15, k16, k17, Int.toNat_natCast, g4', f4', hr, hr', hk'.flat.1, hk'.flat.2, hm'.flat.1, hm'.flat.2, c1, List.append_nil, List.nil_append]
            refine hS (by omega) (hk'.keep (Nat.le_refl _) (by simp (maxSteps := 9999999) (disch := first | omega | (simp only [hN] <;> omega) | fail) only [go_sem, simprocAttr]; omega) fun x hb1 hb2 => ?_) (hm'.keep (Nat.le_refl _) (by simp (maxSteps := 9999999) (disch := first | omega | (simp only [hN] <;> omega) | fail) only [go_sem, simprocAttr]; omega) fun x hb1 hb2 => ?_) ?_
            · simp (maxSteps := 9999999) (disch := first | omega | (simp only [hN] <;> omega) | fail) only [go_sem, simprocAttr, hf2.old]
            · simp (maxSteps := 9999999) (disch := first | omega | (simp only [hN] <;> omega) | fail) only [go_sem, simprocAttr, hf2.old]
            · intro h3 hf3
              have hn3 := hf3.n; try simp only [AHeap.alloc_n, AHeap.upd_n] at hn3
              cases hb : n1.same m1 with
              | true =>
                rw [hb, Bool.true_and] at hsm
                simp (maxSteps := 9999999) (disch := first | omega | (simp only [hN] <;> omega) | fail) only [go_sem, simprocAttr, k1, k2, k15, k16, k17]
                exact ⟨_, hn ▸ Nat.sub_lt_sub_left hil (Nat.lt_succ_self i), i + 1, rfl, hil, ⟨by (first | omega | (simp only [AHeap.alloc_n, AHeap.upd_n]; omega)), fun b hb hne => by (try simp only [AHeap.alloc_n, AHeap.upd_n] at hb hne); simp (maxSteps := 9999999) (disch := first | omega | (simp only [hN] <;> omega) | fail) only [go_sem, simprocAttr, hf3.old, hf2.old]⟩, hsm, rfl⟩
              | false =>
                rw [hb, Bool.false_and] at hsm
                simp (maxSteps := 9999999) (disch := first | omega | (simp only [hN] <;> omega) | fail) only [go_sem, simprocAttr]
                rw [← hsm]
                exact hQ _ ⟨by (first | omega | (simp only [AHeap.alloc_n, AHeap.upd_n]; omega)), fun b hb hne => by (try simp only [AHeap.alloc_n, AHeap.upd_n] at hb hne); simp (maxSteps := 9999999) (disch := first | omega | (simp only [hN] <;> omega) | fail) only [go_sem, simprocAttr, hf3.old, hf2.old]⟩
      · have hil : i = ks.length := by have := of_decide_eq_false hlt; omega
        subst hil
        rw [List.drop_length, hl, List.drop_length] at hsm
        simp (maxSteps := 9999999) (disch := first | omega | (simp only [hN] <;> omega) | fail) only [go_sem, simprocAttr]
        have : sameL ks ms = true := hsm
        rw [← this]
        exact hQ _ hf2
    · exact ⟨0, rfl, Nat.zero_le _, Fr.refl _ _, rfl, by simp (maxSteps := 9999999) (disch := first | omega | (simp only [hN] <;> omega) | fail) only [go_sem, simprocAttr], by simp (maxSteps := 9999999) (disch := first | omega | (simp only [hN] <;> omega) | fail) only [go_sem, simprocAttr], by simp (maxSteps := 9999999) (disch := first | omega | (simp only [hN] <;> omega) | fail) only [go_sem, simprocAttr], by simp (maxSteps := 9999999) (disch := first | omega | (simp only [hN] <;> omega) | fail) only [go_sem, simprocAttr], by (first | (simp (maxSteps := 9999999) (disch := first | omega | (simp only [hN] <;> omega) | fail) only [go_sem, simprocAttr]; done) | (simp (maxSteps := 9999999) (disch := first | omega | (simp only [hN] <;> omega) | fail) only [go_sem, simprocAttr]; rfl)), by simp (maxSteps := 9999999) (disch := first | omega | (simp only [hN] <;> omega) | fail) only [go_sem, simprocAttr]⟩
  · have e : ((ks.length : Int) != (ms.length : Int)) = true := by simp; omega
    simp (maxSteps := 9999999) (disch := first | omega | (simp only [hN] <;> omega) | fail) only [go_sem, simprocAttr, e]
    have : sameL ks ms = false := by
      cases hx : sameL ks ms with
      | false => rfl
      | true => exact absurd (sameL_len hx) hl
    rw [← this]
    exact hQ _ (Fr.refl _ _)
theorem same_eq (n m : Nd) : n.same m = (n.kind == m.kind && n.name == m.name && n.typ == m.typ && n.n == m.n && n.size == m.size && n.obj == m.obj && n.bits == m.bits && sameL n.kids m.kids) := by cases n; cases m; rfl
theorem same_spec : ∀ s, s < 2 ^ 62 → SameFn s := by
  intro s
  induction s with
  | zero => intro _ n m h0; have := count_pos n; omega
  | succ s ih =>
    intro hs n m hc lo h kv kw Q hk hm hQ
    rw [same_eq] at hQ
    have hcnt : n.count = 1 + cntL n.kids := by cases n; rfl
    refine WF.code F27 rfl ?_
    generalize e1 : (n.kind == m.kind) = b1 at hQ
    generalize e2 : (n.name == m.name) = b2 at hQ
    generalize e3 : (n.typ == m.typ) = b3 at hQ
    generalize e4 : (n.n == m.n) = b4 at hQ
    generalize e5 : (n.size == m.size) = b5 at hQ
    generalize e6 : (n.obj == m.obj) = b6 at hQ
    generalize e7 : (n.bits == m.bits) = b7 at hQ
    have hf : Fr h.n h ((h.alloc (.cells .own 0 (ndC n kv))).alloc (.cells .own 0 (ndC m kw))) := ⟨by (first | omega | (simp only [AHeap.alloc_n, AHeap.upd_n]; omega)), fun b hb hne => by (try simp only [AHeap.alloc_n, AHeap.upd_n] at hb hne); simp (maxSteps := 9999999) (disch := first | omega | (simp only [hN] <;> omega) | fail) only [go_sem, simprocAttr]⟩
    cases b1
    · simp (maxSteps := 9999999) (disch := first | omega | (simp only [hN] <;> omega) | fail) only [go_sem, simprocAttr, hk.flat.1, hk.flat.2, hm.flat.1, hm.flat.2, e1]
      exact hQ _ hf
    cases b2
    · simp (maxSteps := 9999999) (disch := first | omega | (simp only [hN] <;> omega) | fail) only [go_sem, simprocAttr, hk.flat.1, hk.flat.2, hm.flat.1, hm.flat.2, e1, e2]
      exact hQ _ hf
    cases b3
    · simp (maxSteps := 9999999) (disch := first | omega | (simp only [hN] <;> omega) | fail) only [go_sem, simprocAttr, hk.flat.1, hk.flat.2, hm.flat.1, hm.flat.2, e1, e2, e3]
      exact hQ _ hf
    cases b4
    · simp (maxSteps := 9999999) (disch := first | omega | (simp only [hN] <;> omega) | fail) only [go_sem, simprocAttr, hk.flat.1, hk.flat.2, hm.flat.1, hm.flat.2, e1, e2, e3, e4]
      exact hQ _ hf
    cases b5
    · simp (maxSteps := 9999999) (disch := first | omega | (simp only [hN] <;> omega) | fail) only [go_sem, simprocAttr, hk.flat.1, hk.flat.2, hm.flat.1, hm.flat.2, e1, e2, e3, e4, e5]
      exact hQ _ hf
    cases b6
    · simp (maxSteps := 9999999) (disch := first | omega | (simp only [hN] <;> omega) | fail) only [go_sem, simprocAttr, hk.flat.1, hk.flat.2, hm.flat.1, hm.flat.2, e1, e2, e3, e4, e5, e6]
      exact hQ _ hf
    cases b7
    · simp (maxSteps := 9999999) (disch := first | omega | (simp only [hN] <;> omega) | fail) only [go_sem, simprocAttr, hk.flat.1, hk.flat.2, hm.flat.1, hm.flat.2, e1, e2, e3, e4, e5, e6, e7]
      exact hQ _ hf
    simp (maxSteps := 9999999) (disch := first | omega | (simp only [hN] <;> omega) | fail) only [go_sem, simprocAttr, hk.flat.1, hk.flat.2, hm.flat.1, hm.flat.2, e1, e2, e3, e4, e5, e6, e7]
    refine equal_spec (ih (by omega)) (by omega) (by omega) (hk.keep (Nat.le_refl _) (by simp (maxSteps := 9999999) (disch := first | omega | (simp only [hN] <;> omega) | fail) only [go_sem, simprocAttr]; omega) fun x hb1 hb2 => ?_) (hm.keep (Nat.le_refl _) (by simp (maxSteps := 9999999) (disch := first | omega | (simp only [hN] <;> omega) | fail) only [go_sem, simprocAttr]; omega) fun x hb1 hb2 => ?_) ?_
    · simp (maxSteps := 9999999) (disch := first | omega | (simp only [hN] <;> omega) | fail) only [go_sem, simprocAttr]
    · simp (maxSteps := 9999999) (disch := first | omega | (simp only [hN] <;> omega) | fail) only [go_sem, simprocAttr]
    · intro h3 hf3
      have hn3 := hf3.n; try simp only [AHeap.alloc_n, AHeap.upd_n] at hn3
      simp (maxSteps := 9999999) (disch := first | omega | (simp only [hN] <;> omega) | fail) only [go_sem, simprocAttr]
      exact hQ _ ⟨by (first | omega | (simp only [AHeap.alloc_n, AHeap.upd_n]; omega)), fun b hb hne => by (try simp only [AHeap.alloc_n, AHeap.upd_n] at hb hne); simp (maxSteps := 9999999) (disch := first | omega | (simp only [hN] <;> omega) | fail) only [go_sem, simprocAttr, hf3.old]⟩
end Go.Ev
