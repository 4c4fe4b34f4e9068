/- Proofread: lists that are asked; arrays. -/
import Derived.Test.YtjfagfoekpnofaaDoorPP5
set_option linter.all false
set_option linter.unusedVariables false
set_option linter.unusedSimpArgs false
namespace Go.Ev
open Go
set_option maxRecDepth 100000
set_option maxHeartbeats 4000000

/-- A function that asks an int, in a heap. -/
def CallB (h : AHeap) (g : Nat) (cap : List AV) (p : Int → Bool) : Prop := ∀ (t : Int) (Q : QR), Q (.ret (.bool (p t))) h → WF F g (.int .i64 t :: cap) h Q
theorem any_take {α : Type} {p : α → Bool} {l : List α} {i : Nat} (hi : i < l.length) (h : (l.take i).any p = false) (hp : p l[i] = false) : (l.take (i + 1)).any p = false := by
  rw [List.take_add_one, List.getElem?_eq_getElem hi, List.any_append, h]
  simp [hp]
theorem any_at {α : Type} {p : α → Bool} {l : List α} {i : Nat} (hi : i < l.length) (hp : p l[i] = true) : l.any p = true := List.any_eq_true.2 ⟨_, List.getElem_mem hi, hp⟩
theorem indexInts {h : AHeap} {l : List Int} {v : AV} {g : Nat} {cap : List AV} {p : Int → Bool} (hv : IntsV h l v) (hp : CallB h g cap p) {Q : QR} (hQ : ∀ i : Int, decide (i ≥ 0) = l.any p → Q (.ret (.int .i64 i)) h) : WF F 49 [v, .func (.func g) [] cap] h Q := by
  refine WF.code F49 rfl ?_
  have h1 := hv.small
  simp (disch := first | omega | (simp only [hN] <;> omega) | fail) only [go_sem, simprocAttr, hv.len, hv.flat.1, hv.flat.2]
  refine wp_loop (fun n a h' => ∃ i : Nat, n = l.length - i ∧ i ≤ l.length ∧ h' = h ∧ (l.take i).any p = false ∧ a.tm.get 0 = some v ∧ a.tm.get 1 = some (.func (.func g) [] cap) ∧ a.tm.get 7 = some (.int .i64 (l.length : Int)) ∧ a.tm.get 8 = some (.int .i64 (i : Int)) ∧ a.df = []) ?_ l.length ?_
  · rintro n ⟨t, df⟩ h' ⟨i, hn, hi, rfl, ht, k0, k1, k7, k8, hdf⟩
    simp only at k0 k1 k7 k8 hdf
    subst hdf
    simp (disch := first | omega | (simp only [hN] <;> omega) | fail) only [go_sem, simprocAttr, k0, k1, k7, k8]
    (first | refine kA (fun hlt => ?_) (fun hlt => ?_) | refine kB (fun hlt => ?_) (fun hlt => ?_) | refine kC (fun hlt => ?_) (fun hlt => ?_) | refine kD (fun hlt => ?_) (fun hlt => ?_) | refine kE (fun hlt => ?_) (fun hlt => ?_) | refine kF (fun hlt => ?_) (fun hlt => ?_))
    · have hil : i < l.length := (by have := of_decide_eq_true hlt; omega)
      obtain ⟨b, o, c, ex, ver, md, bs, rfl, hb, hg, hr⟩ := ints_at hv hil
      have i1 : ((i : Int) < (l.length : Int)) = True := by simp [hil]
      have iN : ((i : Int) + 1) = ((i + 1 : Nat) : Int) := by omega
      simp (disch := first | omega | (simp only [hN] <;> omega) | fail) only [go_sem, simprocAttr, k0, k1, k7, k8, Int.toNat_natCast, hg, hr, Nat.mul_one, i1]
      refine hp _ _ ?_
      cases hpi : p l[i]
      · simp (disch := first | omega | (simp only [hN] <;> omega) | fail) only [go_sem, simprocAttr, k0, k1, k7, k8, iN]
        refine ⟨l.length - (i + 1), by omega, i + 1, rfl, hil, any_take hil ht hpi, ?_⟩
        simp (disch := first | omega | (simp only [hN] <;> omega) | fail) only [go_sem, simprocAttr]
      · simp (disch := first | omega | (simp only [hN] <;> omega) | fail) only [go_sem, simprocAttr, k0, k1]
        exact hQ _ (by rw [any_at hil hpi]; exact decide_eq_true (by omega))
    · have hil : i = l.length := by have := of_decide_eq_false hlt; omega
      simp (disch := first | omega | (simp only [hN] <;> omega) | fail) only [go_sem, simprocAttr, k0, k1]
      subst hil
      rw [List.take_length] at ht
      exact hQ _ (by rw [ht]; rfl)
  · simp (disch := first | omega | (simp only [hN] <;> omega) | fail) only [go_sem, simprocAttr, hv.len]
    exact ⟨0, rfl, Nat.zero_le _, rfl, rfl⟩
theorem containsInts {h : AHeap} {l : List Int} {v : AV} {g : Nat} {cap : List AV} {p : Int → Bool} (hv : IntsV h l v) (hp : CallB h g cap p) {Q : QR} (hQ : Q (.ret (.bool (l.any p))) h) : WF F 42 [v, .func (.func g) [] cap] h Q := by
  refine WF.code F42 rfl ?_
  simp (disch := first | omega | (simp only [hN] <;> omega) | fail) only [go_sem, simprocAttr, hv.flat.1, hv.flat.2]
  refine indexInts hv hp ?_
  intro i hi
  simp (disch := first | omega | (simp only [hN] <;> omega) | fail) only [go_sem, simprocAttr, hi]
  exact hQ
theorem all_any {α : Type} (l : List α) (p : α → Bool) : (!l.any fun t => !p t) = l.all p := by
  induction l with
  | nil => rfl
  | cons x l ih => simp only [List.any_cons, List.all_cons, Bool.not_or, Bool.not_not, ih]
theorem all_spec {h : AHeap} {l : List Int} {v : AV} {g : Nat} {cap : List AV} {p : Int → Bool} (hv : IntsV h l v) (hp : ∀ h', Fr h.n h h' → CallB h' g cap p) {Q : QR} (hQ : ∀ h', Fr h.n h h' → Q (.ret (.bool (l.all p))) h') : WF F 35 [v, .func (.func g) [] cap] h Q := by
  refine WF.code F35 rfl ?_
  simp (disch := first | omega | (simp only [hN] <;> omega) | fail) only [go_sem, simprocAttr, hv.flat.1, hv.flat.2]
  have hF0 : Fr h.n h (h.alloc (.cells .own 0 [.func (.func g) [] cap])) := (Fr.refl _ _).alloc _
  refine containsInts (p := fun t => !p t) (hv.fr hF0) ?_ ?_
  · intro t Q' hQ'
    refine WF.code F43 rfl ?_
    simp (disch := first | omega | (simp only [hN] <;> omega) | fail) only [go_sem, simprocAttr]
    refine hp _ hF0 _ _ ?_
    simp (disch := first | omega | (simp only [hN] <;> omega) | fail) only [go_sem, simprocAttr]
    exact hQ'
  · simp (disch := first | omega | (simp only [hN] <;> omega) | fail) only [go_sem, simprocAttr, all_any]
    exact hQ _ hF0
theorem typ_call {h : AHeap} : CallB h 34 [] typB := fun t Q hQ => typ_spec hQ
theorem array_spec {h : AHeap} {c : Cd} {pv chv fv bv : AV} {first size : Int} (hC : CdV h c pv chv fv bv) {Q : QR} (hQ : ∀ h', Fr h.n h h' → Q (.ret (.bool (arrayB c first size))) h') : WF F 37 [.agg (cdC c pv chv fv bv), .int .i64 first, .int .i64 size] h Q := by
  refine WF.code F37 rfl ?_
  have f1 := hC.places.1.flat
  have f2 := hC.chans.flat
  obtain ⟨css, hE, hfs⟩ := hC.funcs
  have f3 := hfs.flat
  have f4 := hC.body.flat
  have hlen := hC.places.1.len
  have hsm := hC.places.1.small
  unfold arrayB at hQ
  simp (disch := first | omega | (simp only [hN] <;> omega) | fail) only [go_sem, simprocAttr, cdC, f1.1, f1.2, f2.1, f2.2, f3.1, f3.2, f4.1, f4.2]
  refine within_spec ?_
  cases h1 : inside size 1 64
  · rw [h1] at hQ
    simp (disch := first | omega | (simp only [hN] <;> omega) | fail) only [go_sem, simprocAttr]
    exact hQ _ ⟨by first | omega | (simp only [hN]; omega), fun b hb hne => by (try simp only [hN] at hb hne); simp (disch := first | omega | (simp only [hN] <;> omega) | fail) only [go_sem, simprocAttr]⟩
  · rw [h1] at hQ
    simp [inside] at h1
    simp (disch := first | omega | (simp only [hN] <;> omega) | fail) only [go_sem, simprocAttr, hlen]
    refine within_spec ?_
    cases h2 : inside first 0 ((c.places.length : Int) - size)
    · rw [h2] at hQ
      simp (disch := first | omega | (simp only [hN] <;> omega) | fail) only [go_sem, simprocAttr]
      exact hQ _ ⟨by first | omega | (simp only [hN]; omega), fun b hb hne => by (try simp only [hN] at hb hne); simp (disch := first | omega | (simp only [hN] <;> omega) | fail) only [go_sem, simprocAttr]⟩
    · rw [h2] at hQ
      simp [inside] at h2
      obtain ⟨m, rfl⟩ := Int.eq_ofNat_of_zero_le h2.1
      obtain ⟨kk, rfl⟩ := Int.eq_ofNat_of_zero_le (show 0 ≤ size by omega)
      have hm1 : m < c.places.length := by omega
      have esum : ((m : Int) + (kk : Int)) = ((m + kk : Nat) : Int) := by omega
      have esub : m + kk - m = kk := by omega
      have i0 : ((m : Int) < (c.places.length : Int)) = True := by simp [hm1]
      simp only [Bool.true_and, Int.toNat_natCast] at hQ
      obtain ⟨b', o', cp', ex', ver', md', bs', he', hb', hg', hr'⟩ := ints_at hC.places.1 hm1
      rcases hC.places.cases with ⟨rfl, h0⟩ | ⟨b, o, cp, rfl, hc⟩ | ⟨b, o, cp, ver, md, bs, rfl, hc, hc0, hb2, hg⟩
      · cases he'
      · simp only [AV.slice.injEq] at he'
        obtain ⟨rfl, rfl, -, rfl, rfl⟩ := he'
        simp (disch := first | omega | (simp only [hN] <;> omega) | fail) only [go_sem, simprocAttr, hlen, esum, bnd_num, decide_eq_false (show ¬ cp = m by omega), cond_false, esub, Nat.mul_one]
        have hsub := ints_sub hC.places.1 m kk (cp - m) true (by omega)
        refine all_spec (p := fun t => t == c.places.getD m 0) (hsub.fr ⟨by first | omega | (simp only [hN]; omega), fun b hb hne => by (try simp only [hN] at hb hne); simp (disch := first | omega | (simp only [hN] <;> omega) | fail) only [go_sem, simprocAttr]⟩) (fun h' hf => ?_) ?_
        · intro t Q' hQ'
          have hn' := hf.n; try simp only [hN] at hn'
          have q0 : h'.get h.n = some ⟨0, .cells .own 0 [.slice b o c.places.length cp true, .int .i64 c.mutexes, .int .i64 c.atomics, chv, fv, .int .i64 c.main, bv]⟩ := by simp (disch := first | omega | (simp only [hN] <;> omega) | fail) only [go_sem, simprocAttr, hf.old]
          have q1 : h'.get (h.n + 1) = some ⟨0, .cells .own 0 [.int .i64 (m : Int)]⟩ := by simp (disch := first | omega | (simp only [hN] <;> omega) | fail) only [go_sem, simprocAttr, hf.old]
          have q2 := (hf.old b (by simp (disch := first | omega | (simp only [hN] <;> omega) | fail) only [go_sem, simprocAttr]; omega) (by simp (disch := first | omega | (simp only [hN] <;> omega) | fail) only [go_sem, simprocAttr]; omega))
          simp only [AHeap.get_alloc] at q2
          rw [if_neg (by simp only [hN]; omega), if_neg (by omega)] at q2
          replace q2 := q2.trans hg'
          clear hf
          refine WF.code F44 rfl ?_
          simp (disch := first | omega | (simp only [hN] <;> omega) | fail) only [go_sem, simprocAttr, q0, q1, q2, hr', i0, Nat.mul_one, Int.toNat_natCast]
          have e : c.places.getD m 0 = c.places[m] := by simp [List.getD, hm1]
          rw [e] at hQ'
          exact hQ'
        · intro h' hf
          have hn' := hf.n; try simp only [hN] at hn'
          simp (disch := first | omega | (simp only [hN] <;> omega) | fail) only [go_sem, simprocAttr]
          exact hQ _ ⟨by first | omega | (simp only [hN]; omega), fun b hb hne => by (try simp only [hN] at hb hne); simp (disch := first | omega | (simp only [hN] <;> omega) | fail) only [go_sem, simprocAttr, hf.old]⟩
      · simp only [AV.slice.injEq] at he'
        obtain ⟨rfl, rfl, -, rfl, rfl⟩ := he'
        simp (disch := first | omega | (simp only [hN] <;> omega) | fail) only [go_sem, simprocAttr, hlen, esum, bnd_num, decide_eq_false (show ¬ cp = m by omega), cond_false, esub, Nat.mul_one, hg, decide_eq_false (show ¬ cp = 0 by omega), Option.isSome_none, Bool.and_false]
        have hsub := ints_sub hC.places.1 m kk (cp - m) false (by omega)
        refine all_spec (p := fun t => t == c.places.getD m 0) (hsub.fr ⟨by first | omega | (simp only [hN]; omega), fun b hb hne => by (try simp only [hN] at hb hne); simp (disch := first | omega | (simp only [hN] <;> omega) | fail) only [go_sem, simprocAttr]⟩) (fun h' hf => ?_) ?_
        · intro t Q' hQ'
          have hn' := hf.n; try simp only [hN] at hn'
          have q0 : h'.get h.n = some ⟨0, .cells .own 0 [.slice b o c.places.length cp false, .int .i64 c.mutexes, .int .i64 c.atomics, chv, fv, .int .i64 c.main, bv]⟩ := by simp (disch := first | omega | (simp only [hN] <;> omega) | fail) only [go_sem, simprocAttr, hf.old]
          have q1 : h'.get (h.n + 1) = some ⟨0, .cells .own 0 [.int .i64 (m : Int)]⟩ := by simp (disch := first | omega | (simp only [hN] <;> omega) | fail) only [go_sem, simprocAttr, hf.old]
          have q2 := (hf.old b (by simp (disch := first | omega | (simp only [hN] <;> omega) | fail) only [go_sem, simprocAttr]; omega) (by simp (disch := first | omega | (simp only [hN] <;> omega) | fail) only [go_sem, simprocAttr]; omega))
          simp only [AHeap.get_alloc] at q2
          rw [if_neg (by simp only [hN]; omega), if_neg (by omega)] at q2
          replace q2 := q2.trans hg'
          clear hf
          refine WF.code F44 rfl ?_
          simp (disch := first | omega | (simp only [hN] <;> omega) | fail) only [go_sem, simprocAttr, q0, q1, q2, hr', i0, Nat.mul_one, Int.toNat_natCast]
          have e : c.places.getD m 0 = c.places[m] := by simp [List.getD, hm1]
          rw [e] at hQ'
          exact hQ'
        · intro h' hf
          have hn' := hf.n; try simp only [hN] at hn'
          simp (disch := first | omega | (simp only [hN] <;> omega) | fail) only [go_sem, simprocAttr]
          exact hQ _ ⟨by first | omega | (simp only [hN]; omega), fun b hb hne => by (try simp only [hN] at hb hne); simp (disch := first | omega | (simp only [hN] <;> omega) | fail) only [go_sem, simprocAttr, hf.old]⟩
end Go.Ev
/- Proofread: an instruction's form (printed by genp9.py). -/
namespace Go.Ev
open Go
set_option maxRecDepth 100000
set_option maxHeartbeats 4000000

theorem CdV.flats {h : AHeap} {c : Cd} {pv chv fv bv : AV} (k : CdV h c pv chv fv bv) : (pv.flat = true ∧ pv.cells = [pv]) ∧ (chv.flat = true ∧ chv.cells = [chv]) ∧ (fv.flat = true ∧ fv.cells = [fv]) ∧ (bv.flat = true ∧ bv.cells = [bv]) := by
  obtain ⟨css, hE, hfs⟩ := k.funcs
  exact ⟨k.places.1.flat, k.chans.flat, hfs.flat, k.body.flat⟩
theorem CdV.lens {h : AHeap} {c : Cd} {pv chv fv bv : AV} (k : CdV h c pv chv fv bv) : lenA pv = some (c.places.length : Int) ∧ lenA chv = some (c.chans.length : Int) ∧ lenA fv = some (c.funcs.length : Int) ∧ lenA bv = some (c.body.length : Int) := by
  obtain ⟨css, hE, hfs⟩ := k.funcs
  exact ⟨k.places.1.len, k.chans.len, hfs.len, k.body.len⟩
theorem CdV.smalls {h : AHeap} {c : Cd} {pv chv fv bv : AV} (k : CdV h c pv chv fv bv) : c.places.length < 2 ^ 61 ∧ c.chans.length < 2 ^ 61 ∧ c.funcs.length < 2 ^ 61 ∧ c.body.length < 2 ^ 61 := by
  obtain ⟨css, hE, hfs⟩ := k.funcs
  exact ⟨k.places.1.small, k.chans.small, hfs.small, k.body.small⟩
theorem eq5 {a b c d e a' b' c' d' e' : Int} : eqT (.many [.int, .int, .int, .int, .int]) (.agg [.int .i64 a, .int .i64 b, .int .i64 c, .int .u64 d, .int .i64 e]) (.agg [.int .i64 a', .int .i64 b', .int .i64 c', .int .u64 d', .int .i64 e']) = some ((a == a') && (b == b') && (c == c') && (d == d') && (e == e')) := by
  simp only [eqT, eqKs, eqK]
  cases a == a' <;> cases b == b' <;> cases c == c' <;> cases d == d' <;> cases e == e' <;> rfl
theorem instr_spec {h : AHeap} {c : Cd} {x : Ins} {pv chv fv bv : AV} (hC : CdV h c pv chv fv bv) (hm : 0 ≤ c.mutexes ∧ c.mutexes ≤ 32) (ha : 0 ≤ c.atomics ∧ c.atomics ≤ 32) {Q : QR} (hQ : ∀ h', Fr h.n h h' → Q (.ret (.bool (insOk c x))) h') : WF F 26 [.agg (cdC c pv chv fv bv), .agg (insC x)] h Q := by
  refine WF.code F26 rfl ?_
  obtain ⟨f1, f2, f3, f4⟩ := hC.flats
  obtain ⟨l1, l2, l3, l4⟩ := hC.lens
  obtain ⟨s1, s2, s3, s4⟩ := hC.smalls
  simp (disch := first | omega | (simp only [hN] <;> omega) | fail) only [go_sem, simprocAttr, cdC, insC, f1.1, f1.2, f2.1, f2.2, f3.1, f3.2, f4.1, f4.2]
  generalize hHH : AHeap.upd (AHeap.alloc _ _) _ _ _ = H
  have hHn : H.n = h.n + 3 := by rw [← hHH]; simp (disch := first | omega | (simp only [hN] <;> omega) | fail) only [go_sem, simprocAttr]
  have b0 : H.get h.n = some ⟨0, .cells .own 0 (cdC c pv chv fv bv)⟩ := by rw [← hHH]; simp (disch := first | omega | (simp only [hN] <;> omega) | fail) only [go_sem, simprocAttr, cdC]
  have b1 : H.get (h.n + 1) = some ⟨0, .cells .own 0 (insC x)⟩ := by rw [← hHH]; simp (disch := first | omega | (simp only [hN] <;> omega) | fail) only [go_sem, simprocAttr, insC]
  have b2 : H.get (h.n + 1 + 1) = some ⟨1, .cells .own 0 [.int .i64 x.op, .int .i64 x.a, .int .i64 0, .int .u64 0, .int .i64 x.pos]⟩ := by rw [← hHH]; simp (disch := first | omega | (simp only [hN] <;> omega) | fail) only [go_sem, simprocAttr]
  have bo : ∀ b', b' < h.n → H.get b' = h.get b' := fun b' hb' => by rw [← hHH]; simp (disch := first | omega | (simp only [hN] <;> omega) | fail) only [go_sem, simprocAttr]
  have hCH : CdV H c pv chv fv bv := hC.fr ⟨by omega, fun b hb _ => bo b hb⟩
  clear hHH hC
  refine within_spec ?_
  obtain ⟨op, a, b, bits, pos⟩ := x
  simp only at b0 b1 b2 hQ ⊢
  have d2 : decide (h.n = h.n + 1) = false := decide_eq_false (by omega)
  cases hp : inside pos 0 8192
  · have hz : insOk c ⟨op, a, b, bits, pos⟩ = false := by simp [insOk, hp]
    rw [hz] at hQ
    by_cases e1 : op = 1
    · subst e1
      simp (disch := first | omega | (simp only [hN] <;> omega) | fail) only [go_sem, simprocAttr, d2, cdC, insC, b0, b1, b2, eq5, f1.1, f1.2, f2.1, f2.2, f3.1, f3.2, f4.1, f4.2]
      exact hQ _ ⟨by first | omega | (simp only [hN]; omega), fun b hb hne => by (try simp only [hN] at hb hne); simp (disch := first | omega | (simp only [hN] <;> omega) | fail) only [go_sem, simprocAttr, bo]⟩
    by_cases e2 : op = 2
    · subst e2
      simp (disch := first | omega | (simp only [hN] <;> omega) | fail) only [go_sem, simprocAttr, d2, cdC, insC, b0, b1, b2, eq5, f1.1, f1.2, f2.1, f2.2, f3.1, f3.2, f4.1, f4.2]
      exact hQ _ ⟨by first | omega | (simp only [hN]; omega), fun b hb hne => by (try simp only [hN] at hb hne); simp (disch := first | omega | (simp only [hN] <;> omega) | fail) only [go_sem, simprocAttr, bo]⟩
    by_cases e3 : op = 3
    · subst e3
      simp (disch := first | omega | (simp only [hN] <;> omega) | fail) only [go_sem, simprocAttr, d2, cdC, insC, b0, b1, b2, eq5, f1.1, f1.2, f2.1, f2.2, f3.1, f3.2, f4.1, f4.2]
      exact hQ _ ⟨by first | omega | (simp only [hN]; omega), fun b hb hne => by (try simp only [hN] at hb hne); simp (disch := first | omega | (simp only [hN] <;> omega) | fail) only [go_sem, simprocAttr, bo]⟩
    by_cases e4 : op = 4
    · subst e4
      simp (disch := first | omega | (simp only [hN] <;> omega) | fail) only [go_sem, simprocAttr, d2, cdC, insC, b0, b1, b2, eq5, f1.1, f1.2, f2.1, f2.2, f3.1, f3.2, f4.1, f4.2]
      exact hQ _ ⟨by first | omega | (simp only [hN]; omega), fun b hb hne => by (try simp only [hN] at hb hne); simp (disch := first | omega | (simp only [hN] <;> omega) | fail) only [go_sem, simprocAttr, bo]⟩
    by_cases e5 : op = 5
    · subst e5
      simp (disch := first | omega | (simp only [hN] <;> omega) | fail) only [go_sem, simprocAttr, d2, cdC, insC, b0, b1, b2, eq5, f1.1, f1.2, f2.1, f2.2, f3.1, f3.2, f4.1, f4.2]
      exact hQ _ ⟨by first | omega | (simp only [hN]; omega), fun b hb hne => by (try simp only [hN] at hb hne); simp (disch := first | omega | (simp only [hN] <;> omega) | fail) only [go_sem, simprocAttr, bo]⟩
    by_cases e6 : op = 6
    · subst e6
      simp (disch := first | omega | (simp only [hN] <;> omega) | fail) only [go_sem, simprocAttr, d2, cdC, insC, b0, b1, b2, eq5, f1.1, f1.2, f2.1, f2.2, f3.1, f3.2, f4.1, f4.2]
      exact hQ _ ⟨by first | omega | (simp only [hN]; omega), fun b hb hne => by (try simp only [hN] at hb hne); simp (disch := first | omega | (simp only [hN] <;> omega) | fail) only [go_sem, simprocAttr, bo]⟩
    by_cases e7 : op = 7
    · subst e7
      simp (disch := first | omega | (simp only [hN] <;> omega) | fail) only [go_sem, simprocAttr, d2, cdC, insC, b0, b1, b2, eq5, f1.1, f1.2, f2.1, f2.2, f3.1, f3.2, f4.1, f4.2]
      exact hQ _ ⟨by first | omega | (simp only [hN]; omega), fun b hb hne => by (try simp only [hN] at hb hne); simp (disch := first | omega | (simp only [hN] <;> omega) | fail) only [go_sem, simprocAttr, bo]⟩
    by_cases e8 : op = 8
    · subst e8
      simp (disch := first | omega | (simp only [hN] <;> omega) | fail) only [go_sem, simprocAttr, d2, cdC, insC, b0, b1, b2, eq5, f1.1, f1.2, f2.1, f2.2, f3.1, f3.2, f4.1, f4.2]
      exact hQ _ ⟨by first | omega | (simp only [hN]; omega), fun b hb hne => by (try simp only [hN] at hb hne); simp (disch := first | omega | (simp only [hN] <;> omega) | fail) only [go_sem, simprocAttr, bo]⟩
    by_cases e9 : op = 9
    · subst e9
      simp (disch := first | omega | (simp only [hN] <;> omega) | fail) only [go_sem, simprocAttr, d2, cdC, insC, b0, b1, b2, eq5, f1.1, f1.2, f2.1, f2.2, f3.1, f3.2, f4.1, f4.2]
      exact hQ _ ⟨by first | omega | (simp only [hN]; omega), fun b hb hne => by (try simp only [hN] at hb hne); simp (disch := first | omega | (simp only [hN] <;> omega) | fail) only [go_sem, simprocAttr, bo]⟩
    by_cases e10 : op = 10
    · subst e10
      simp (disch := first | omega | (simp only [hN] <;> omega) | fail) only [go_sem, simprocAttr, d2, cdC, insC, b0, b1, b2, eq5, f1.1, f1.2, f2.1, f2.2, f3.1, f3.2, f4.1, f4.2]
      exact hQ _ ⟨by first | omega | (simp only [hN]; omega), fun b hb hne => by (try simp only [hN] at hb hne); simp (disch := first | omega | (simp only [hN] <;> omega) | fail) only [go_sem, simprocAttr, bo]⟩
    by_cases e11 : op = 11
    · subst e11
      simp (disch := first | omega | (simp only [hN] <;> omega) | fail) only [go_sem, simprocAttr, d2, cdC, insC, b0, b1, b2, eq5, f1.1, f1.2, f2.1, f2.2, f3.1, f3.2, f4.1, f4.2]
      exact hQ _ ⟨by first | omega | (simp only [hN]; omega), fun b hb hne => by (try simp only [hN] at hb hne); simp (disch := first | omega | (simp only [hN] <;> omega) | fail) only [go_sem, simprocAttr, bo]⟩
    by_cases e12 : op = 12
    · subst e12
      simp (disch := first | omega | (simp only [hN] <;> omega) | fail) only [go_sem, simprocAttr, d2, cdC, insC, b0, b1, b2, eq5, f1.1, f1.2, f2.1, f2.2, f3.1, f3.2, f4.1, f4.2]
      exact hQ _ ⟨by first | omega | (simp only [hN]; omega), fun b hb hne => by (try simp only [hN] at hb hne); simp (disch := first | omega | (simp only [hN] <;> omega) | fail) only [go_sem, simprocAttr, bo]⟩
    by_cases e13 : op = 13
    · subst e13
      simp (disch := first | omega | (simp only [hN] <;> omega) | fail) only [go_sem, simprocAttr, d2, cdC, insC, b0, b1, b2, eq5, f1.1, f1.2, f2.1, f2.2, f3.1, f3.2, f4.1, f4.2]
      exact hQ _ ⟨by first | omega | (simp only [hN]; omega), fun b hb hne => by (try simp only [hN] at hb hne); simp (disch := first | omega | (simp only [hN] <;> omega) | fail) only [go_sem, simprocAttr, bo]⟩
    by_cases e14 : op = 14
    · subst e14
      simp (disch := first | omega | (simp only [hN] <;> omega) | fail) only [go_sem, simprocAttr, d2, cdC, insC, b0, b1, b2, eq5, f1.1, f1.2, f2.1, f2.2, f3.1, f3.2, f4.1, f4.2]
      exact hQ _ ⟨by first | omega | (simp only [hN]; omega), fun b hb hne => by (try simp only [hN] at hb hne); simp (disch := first | omega | (simp only [hN] <;> omega) | fail) only [go_sem, simprocAttr, bo]⟩
    by_cases e15 : op = 15
    · subst e15
      simp (disch := first | omega | (simp only [hN] <;> omega) | fail) only [go_sem, simprocAttr, d2, cdC, insC, b0, b1, b2, eq5, f1.1, f1.2, f2.1, f2.2, f3.1, f3.2, f4.1, f4.2]
      exact hQ _ ⟨by first | omega | (simp only [hN]; omega), fun b hb hne => by (try simp only [hN] at hb hne); simp (disch := first | omega | (simp only [hN] <;> omega) | fail) only [go_sem, simprocAttr, bo]⟩
    by_cases e16 : op = 16
    · subst e16
      simp (disch := first | omega | (simp only [hN] <;> omega) | fail) only [go_sem, simprocAttr, d2, cdC, insC, b0, b1, b2, eq5, f1.1, f1.2, f2.1, f2.2, f3.1, f3.2, f4.1, f4.2]
      exact hQ _ ⟨by first | omega | (simp only [hN]; omega), fun b hb hne => by (try simp only [hN] at hb hne); simp (disch := first | omega | (simp only [hN] <;> omega) | fail) only [go_sem, simprocAttr, bo]⟩
    by_cases e17 : op = 17
    · subst e17
      simp (disch := first | omega | (simp only [hN] <;> omega) | fail) only [go_sem, simprocAttr, d2, cdC, insC, b0, b1, b2, eq5, f1.1, f1.2, f2.1, f2.2, f3.1, f3.2, f4.1, f4.2]
      exact hQ _ ⟨by first | omega | (simp only [hN]; omega), fun b hb hne => by (try simp only [hN] at hb hne); simp (disch := first | omega | (simp only [hN] <;> omega) | fail) only [go_sem, simprocAttr, bo]⟩
    by_cases e18 : op = 18
    · subst e18
      simp (disch := first | omega | (simp only [hN] <;> omega) | fail) only [go_sem, simprocAttr, d2, cdC, insC, b0, b1, b2, eq5, f1.1, f1.2, f2.1, f2.2, f3.1, f3.2, f4.1, f4.2]
      exact hQ _ ⟨by first | omega | (simp only [hN]; omega), fun b hb hne => by (try simp only [hN] at hb hne); simp (disch := first | omega | (simp only [hN] <;> omega) | fail) only [go_sem, simprocAttr, bo]⟩
    by_cases e19 : op = 19
    · subst e19
      simp (disch := first | omega | (simp only [hN] <;> omega) | fail) only [go_sem, simprocAttr, d2, cdC, insC, b0, b1, b2, eq5, f1.1, f1.2, f2.1, f2.2, f3.1, f3.2, f4.1, f4.2]
      exact hQ _ ⟨by first | omega | (simp only [hN]; omega), fun b hb hne => by (try simp only [hN] at hb hne); simp (disch := first | omega | (simp only [hN] <;> omega) | fail) only [go_sem, simprocAttr, bo]⟩
    by_cases e20 : op = 20
    · subst e20
      simp (disch := first | omega | (simp only [hN] <;> omega) | fail) only [go_sem, simprocAttr, d2, cdC, insC, b0, b1, b2, eq5, f1.1, f1.2, f2.1, f2.2, f3.1, f3.2, f4.1, f4.2]
      exact hQ _ ⟨by first | omega | (simp only [hN]; omega), fun b hb hne => by (try simp only [hN] at hb hne); simp (disch := first | omega | (simp only [hN] <;> omega) | fail) only [go_sem, simprocAttr, bo]⟩
    by_cases e21 : op = 21
    · subst e21
      simp (disch := first | omega | (simp only [hN] <;> omega) | fail) only [go_sem, simprocAttr, d2, cdC, insC, b0, b1, b2, eq5, f1.1, f1.2, f2.1, f2.2, f3.1, f3.2, f4.1, f4.2]
      exact hQ _ ⟨by first | omega | (simp only [hN]; omega), fun b hb hne => by (try simp only [hN] at hb hne); simp (disch := first | omega | (simp only [hN] <;> omega) | fail) only [go_sem, simprocAttr, bo]⟩
    by_cases e22 : op = 22
    · subst e22
      simp (disch := first | omega | (simp only [hN] <;> omega) | fail) only [go_sem, simprocAttr, d2, cdC, insC, b0, b1, b2, eq5, f1.1, f1.2, f2.1, f2.2, f3.1, f3.2, f4.1, f4.2]
      exact hQ _ ⟨by first | omega | (simp only [hN]; omega), fun b hb hne => by (try simp only [hN] at hb hne); simp (disch := first | omega | (simp only [hN] <;> omega) | fail) only [go_sem, simprocAttr, bo]⟩
    by_cases e23 : op = 23
    · subst e23
      simp (disch := first | omega | (simp only [hN] <;> omega) | fail) only [go_sem, simprocAttr, d2, cdC, insC, b0, b1, b2, eq5, f1.1, f1.2, f2.1, f2.2, f3.1, f3.2, f4.1, f4.2]
      exact hQ _ ⟨by first | omega | (simp only [hN]; omega), fun b hb hne => by (try simp only [hN] at hb hne); simp (disch := first | omega | (simp only [hN] <;> omega) | fail) only [go_sem, simprocAttr, bo]⟩
    by_cases e24 : op = 24
    · subst e24
      simp (disch := first | omega | (simp only [hN] <;> omega) | fail) only [go_sem, simprocAttr, d2, cdC, insC, b0, b1, b2, eq5, f1.1, f1.2, f2.1, f2.2, f3.1, f3.2, f4.1, f4.2]
      exact hQ _ ⟨by first | omega | (simp only [hN]; omega), fun b hb hne => by (try simp only [hN] at hb hne); simp (disch := first | omega | (simp only [hN] <;> omega) | fail) only [go_sem, simprocAttr, bo]⟩
    by_cases e25 : op = 25
    · subst e25
      simp (disch := first | omega | (simp only [hN] <;> omega) | fail) only [go_sem, simprocAttr, d2, cdC, insC, b0, b1, b2, eq5, f1.1, f1.2, f2.1, f2.2, f3.1, f3.2, f4.1, f4.2]
      exact hQ _ ⟨by first | omega | (simp only [hN]; omega), fun b hb hne => by (try simp only [hN] at hb hne); simp (disch := first | omega | (simp only [hN] <;> omega) | fail) only [go_sem, simprocAttr, bo]⟩
    by_cases e26 : op = 26
    · subst e26
      simp (disch := first | omega | (simp only [hN] <;> omega) | fail) only [go_sem, simprocAttr, d2, cdC, insC, b0, b1, b2, eq5, f1.1, f1.2, f2.1, f2.2, f3.1, f3.2, f4.1, f4.2]
      exact hQ _ ⟨by first | omega | (simp only [hN]; omega), fun b hb hne => by (try simp only [hN] at hb hne); simp (disch := first | omega | (simp only [hN] <;> omega) | fail) only [go_sem, simprocAttr, bo]⟩
    have g1 : (op == 1) = false := by simp [e1]
    have g2 : (op == 2) = false := by simp [e2]
    have g3 : (op == 3) = false := by simp [e3]
    have g4 : (op == 4) = false := by simp [e4]
    have g5 : (op == 5) = false := by simp [e5]
    have g6 : (op == 6) = false := by simp [e6]
    have g7 : (op == 7) = false := by simp [e7]
    have g8 : (op == 8) = false := by simp [e8]
    have g9 : (op == 9) = false := by simp [e9]
    have g10 : (op == 10) = false := by simp [e10]
    have g11 : (op == 11) = false := by simp [e11]
    have g12 : (op == 12) = false := by simp [e12]
    have g13 : (op == 13) = false := by simp [e13]
    have g14 : (op == 14) = false := by simp [e14]
    have g15 : (op == 15) = false := by simp [e15]
    have g16 : (op == 16) = false := by simp [e16]
    have g17 : (op == 17) = false := by simp [e17]
    have g18 : (op == 18) = false := by simp [e18]
    have g19 : (op == 19) = false := by simp [e19]
    have g20 : (op == 20) = false := by simp [e20]
    have g21 : (op == 21) = false := by simp [e21]
    have g22 : (op == 22) = false := by simp [e22]
    have g23 : (op == 23) = false := by simp [e23]
    have g24 : (op == 24) = false := by simp [e24]
    have g25 : (op == 25) = false := by simp [e25]
    have g26 : (op == 26) = false := by simp [e26]
    simp (disch := first | omega | (simp only [hN] <;> omega) | fail) only [go_sem, simprocAttr, d2, cdC, insC, b0, b1, b2, eq5, f1.1, f1.2, f2.1, f2.2, f3.1, f3.2, f4.1, f4.2, g1, g2, g3, g4, g5, g6, g7, g8, g9, g10, g11, g12, g13, g14, g15, g16, g17, g18, g19, g20, g21, g22, g23, g24, g25, g26]
    exact hQ _ ⟨by first | omega | (simp only [hN]; omega), fun b hb hne => by (try simp only [hN] at hb hne); simp (disch := first | omega | (simp only [hN] <;> omega) | fail) only [go_sem, simprocAttr, bo]⟩
  · have hz : insOk c ⟨op, a, b, bits, pos⟩ = insB c ⟨op, a, b, bits, pos⟩ := by simp [insOk, hp]
    rw [hz] at hQ
    clear hz hp
    by_cases e1 : op = 1
    · subst e1
      simp (disch := first | omega | (simp only [hN] <;> omega) | fail) only [go_sem, simprocAttr, d2, cdC, insC, b0, b1, b2, eq5, f1.1, f1.2, f2.1, f2.2, f3.1, f3.2, f4.1, f4.2]
      cases hw : decide (a ≥ 0)
      · have hz : insB c ⟨1, a, b, bits, pos⟩ = false := by simp at hw; simp [insB]; omega
        rw [hz] at hQ
        simp (disch := first | omega | (simp only [hN] <;> omega) | fail) only [go_sem, simprocAttr, d2, cdC, insC, b0, b1, b2, eq5, f1.1, f1.2, f2.1, f2.2, f3.1, f3.2, f4.1, f4.2]
        exact hQ _ ⟨by first | omega | (simp only [hN]; omega), fun b hb hne => by (try simp only [hN] at hb hne); simp (disch := first | omega | (simp only [hN] <;> omega) | fail) only [go_sem, simprocAttr, bo]⟩
      · have hz : insB c ⟨1, a, b, bits, pos⟩ = (b == 0 && bits == 0) := by simp at hw; simp [insB, hw]
        rw [hz] at hQ
        simp (disch := first | omega | (simp only [hN] <;> omega) | fail) only [go_sem, simprocAttr, d2, cdC, insC, b0, b1, b2, eq5, f1.1, f1.2, f2.1, f2.2, f3.1, f3.2, f4.1, f4.2]
        exact hQ _ ⟨by first | omega | (simp only [hN]; omega), fun b hb hne => by (try simp only [hN] at hb hne); simp (disch := first | omega | (simp only [hN] <;> omega) | fail) only [go_sem, simprocAttr, bo]⟩
    by_cases e2 : op = 2
    · subst e2
      simp (disch := first | omega | (simp only [hN] <;> omega) | fail) only [go_sem, simprocAttr, d2, cdC, insC, b0, b1, b2, eq5, f1.1, f1.2, f2.1, f2.2, f3.1, f3.2, f4.1, f4.2]
      have hz : insB c ⟨2, a, b, bits, pos⟩ = (a == 0 && b == 0) := by simp [insB]
      rw [hz] at hQ
      exact hQ _ ⟨by first | omega | (simp only [hN]; omega), fun b hb hne => by (try simp only [hN] at hb hne); simp (disch := first | omega | (simp only [hN] <;> omega) | fail) only [go_sem, simprocAttr, bo]⟩
    by_cases e3 : op = 3
    · subst e3
      simp (disch := first | omega | (simp only [hN] <;> omega) | fail) only [go_sem, simprocAttr, d2, cdC, insC, b0, b1, b2, eq5, f1.1, f1.2, f2.1, f2.2, f3.1, f3.2, f4.1, f4.2]
      refine within_spec ?_
      cases hw : inside a 0 1
      · have hz : insB c ⟨3, a, b, bits, pos⟩ = false := by simp [insB, hw]
        rw [hz] at hQ
        simp (disch := first | omega | (simp only [hN] <;> omega) | fail) only [go_sem, simprocAttr, d2, cdC, insC, b0, b1, b2, eq5, f1.1, f1.2, f2.1, f2.2, f3.1, f3.2, f4.1, f4.2]
        exact hQ _ ⟨by first | omega | (simp only [hN]; omega), fun b hb hne => by (try simp only [hN] at hb hne); simp (disch := first | omega | (simp only [hN] <;> omega) | fail) only [go_sem, simprocAttr, bo]⟩
      · have hz : insB c ⟨3, a, b, bits, pos⟩ = (b == 0 && bits == 0) := by simp [insB, hw]
        rw [hz] at hQ
        simp (disch := first | omega | (simp only [hN] <;> omega) | fail) only [go_sem, simprocAttr, d2, cdC, insC, b0, b1, b2, eq5, f1.1, f1.2, f2.1, f2.2, f3.1, f3.2, f4.1, f4.2]
        exact hQ _ ⟨by first | omega | (simp only [hN]; omega), fun b hb hne => by (try simp only [hN] at hb hne); simp (disch := first | omega | (simp only [hN] <;> omega) | fail) only [go_sem, simprocAttr, bo]⟩
    by_cases e4 : op = 4
    · subst e4
      simp (disch := first | omega | (simp only [hN] <;> omega) | fail) only [go_sem, simprocAttr, d2, cdC, insC, b0, b1, b2, eq5, f1.1, f1.2, f2.1, f2.2, f3.1, f3.2, f4.1, f4.2]
      refine within_spec ?_
      cases hw : inside a 0 31
      · have hz : insB c ⟨4, a, b, bits, pos⟩ = false := by simp [insB, hw]
        rw [hz] at hQ
        simp (disch := first | omega | (simp only [hN] <;> omega) | fail) only [go_sem, simprocAttr, d2, cdC, insC, b0, b1, b2, eq5, f1.1, f1.2, f2.1, f2.2, f3.1, f3.2, f4.1, f4.2]
        exact hQ _ ⟨by first | omega | (simp only [hN]; omega), fun b hb hne => by (try simp only [hN] at hb hne); simp (disch := first | omega | (simp only [hN] <;> omega) | fail) only [go_sem, simprocAttr, bo]⟩
      · have hz : insB c ⟨4, a, b, bits, pos⟩ = (b == 0 && bits == 0) := by simp [insB, hw]
        rw [hz] at hQ
        simp (disch := first | omega | (simp only [hN] <;> omega) | fail) only [go_sem, simprocAttr, d2, cdC, insC, b0, b1, b2, eq5, f1.1, f1.2, f2.1, f2.2, f3.1, f3.2, f4.1, f4.2]
        exact hQ _ ⟨by first | omega | (simp only [hN]; omega), fun b hb hne => by (try simp only [hN] at hb hne); simp (disch := first | omega | (simp only [hN] <;> omega) | fail) only [go_sem, simprocAttr, bo]⟩
    by_cases e5 : op = 5
    · subst e5
      simp (disch := first | omega | (simp only [hN] <;> omega) | fail) only [go_sem, simprocAttr, d2, cdC, insC, b0, b1, b2, eq5, f1.1, f1.2, f2.1, f2.2, f3.1, f3.2, f4.1, f4.2]
      refine within_spec ?_
      cases hw : inside a 0 31
      · have hz : insB c ⟨5, a, b, bits, pos⟩ = false := by simp [insB, hw]
        rw [hz] at hQ
        simp (disch := first | omega | (simp only [hN] <;> omega) | fail) only [go_sem, simprocAttr, d2, cdC, insC, b0, b1, b2, eq5, f1.1, f1.2, f2.1, f2.2, f3.1, f3.2, f4.1, f4.2]
        exact hQ _ ⟨by first | omega | (simp only [hN]; omega), fun b hb hne => by (try simp only [hN] at hb hne); simp (disch := first | omega | (simp only [hN] <;> omega) | fail) only [go_sem, simprocAttr, bo]⟩
      · have hz : insB c ⟨5, a, b, bits, pos⟩ = (b == 0 && bits == 0) := by simp [insB, hw]
        rw [hz] at hQ
        simp (disch := first | omega | (simp only [hN] <;> omega) | fail) only [go_sem, simprocAttr, d2, cdC, insC, b0, b1, b2, eq5, f1.1, f1.2, f2.1, f2.2, f3.1, f3.2, f4.1, f4.2]
        exact hQ _ ⟨by first | omega | (simp only [hN]; omega), fun b hb hne => by (try simp only [hN] at hb hne); simp (disch := first | omega | (simp only [hN] <;> omega) | fail) only [go_sem, simprocAttr, bo]⟩
    by_cases e6 : op = 6
    · subst e6
      simp (disch := first | omega | (simp only [hN] <;> omega) | fail) only [go_sem, simprocAttr, d2, cdC, insC, b0, b1, b2, eq5, f1.1, f1.2, f2.1, f2.2, f3.1, f3.2, f4.1, f4.2, l1]
      refine within_spec ?_
      cases hw : inside a 0 ((c.places.length : Int) - 1)
      · have hz : insB c ⟨6, a, b, bits, pos⟩ = false := by simp [insB, hw]
        rw [hz] at hQ
        simp (disch := first | omega | (simp only [hN] <;> omega) | fail) only [go_sem, simprocAttr, d2, cdC, insC, b0, b1, b2, eq5, f1.1, f1.2, f2.1, f2.2, f3.1, f3.2, f4.1, f4.2]
        exact hQ _ ⟨by first | omega | (simp only [hN]; omega), fun b hb hne => by (try simp only [hN] at hb hne); simp (disch := first | omega | (simp only [hN] <;> omega) | fail) only [go_sem, simprocAttr, bo]⟩
      · have hz : insB c ⟨6, a, b, bits, pos⟩ = (b == 0 && bits == 0) := by simp [insB, hw]
        rw [hz] at hQ
        simp (disch := first | omega | (simp only [hN] <;> omega) | fail) only [go_sem, simprocAttr, d2, cdC, insC, b0, b1, b2, eq5, f1.1, f1.2, f2.1, f2.2, f3.1, f3.2, f4.1, f4.2]
        exact hQ _ ⟨by first | omega | (simp only [hN]; omega), fun b hb hne => by (try simp only [hN] at hb hne); simp (disch := first | omega | (simp only [hN] <;> omega) | fail) only [go_sem, simprocAttr, bo]⟩
    by_cases e7 : op = 7
    · subst e7
      simp (disch := first | omega | (simp only [hN] <;> omega) | fail) only [go_sem, simprocAttr, d2, cdC, insC, b0, b1, b2, eq5, f1.1, f1.2, f2.1, f2.2, f3.1, f3.2, f4.1, f4.2, l1]
      refine within_spec ?_
      cases hw : inside a 0 ((c.places.length : Int) - 1)
      · have hz : insB c ⟨7, a, b, bits, pos⟩ = false := by simp [insB, hw]
        rw [hz] at hQ
        simp (disch := first | omega | (simp only [hN] <;> omega) | fail) only [go_sem, simprocAttr, d2, cdC, insC, b0, b1, b2, eq5, f1.1, f1.2, f2.1, f2.2, f3.1, f3.2, f4.1, f4.2]
        exact hQ _ ⟨by first | omega | (simp only [hN]; omega), fun b hb hne => by (try simp only [hN] at hb hne); simp (disch := first | omega | (simp only [hN] <;> omega) | fail) only [go_sem, simprocAttr, bo]⟩
      · have hz : insB c ⟨7, a, b, bits, pos⟩ = (b == 0 && bits == 0) := by simp [insB, hw]
        rw [hz] at hQ
        simp (disch := first | omega | (simp only [hN] <;> omega) | fail) only [go_sem, simprocAttr, d2, cdC, insC, b0, b1, b2, eq5, f1.1, f1.2, f2.1, f2.2, f3.1, f3.2, f4.1, f4.2]
        exact hQ _ ⟨by first | omega | (simp only [hN]; omega), fun b hb hne => by (try simp only [hN] at hb hne); simp (disch := first | omega | (simp only [hN] <;> omega) | fail) only [go_sem, simprocAttr, bo]⟩
    by_cases e8 : op = 8
    · subst e8
      simp (disch := first | omega | (simp only [hN] <;> omega) | fail) only [go_sem, simprocAttr, d2, cdC, insC, b0, b1, b2, eq5, f1.1, f1.2, f2.1, f2.2, f3.1, f3.2, f4.1, f4.2]
      refine array_spec hCH ?_
      intro h2 hf2
      have hn2 := hf2.n; try simp only [hN] at hn2
      have c0 : h2.get h.n = some ⟨0, .cells .own 0 (cdC c pv chv fv bv)⟩ := by simp (disch := first | omega | (simp only [hN] <;> omega) | fail) only [go_sem, simprocAttr, hf2.old, b0]
      have c1 : h2.get (h.n + 1) = some ⟨0, .cells .own 0 (insC ⟨8, a, b, bits, pos⟩)⟩ := by simp (disch := first | omega | (simp only [hN] <;> omega) | fail) only [go_sem, simprocAttr, hf2.old, b1]
      have c2 : h2.get (h.n + 1 + 1) = some ⟨1, .cells .own 0 [.int .i64 8, .int .i64 a, .int .i64 0, .int .u64 0, .int .i64 pos]⟩ := by simp (disch := first | omega | (simp only [hN] <;> omega) | fail) only [go_sem, simprocAttr, hf2.old, b2]
      have co : ∀ b', b' < h.n → h2.get b' = h.get b' := fun b' hb' => by simp (disch := first | omega | (simp only [hN] <;> omega) | fail) only [go_sem, simprocAttr, hf2.old, bo]
      simp only [insC] at c1
      clear hf2
      cases hw : arrayB c a b
      · have hz : insB c ⟨8, a, b, bits, pos⟩ = false := by simp [insB, hw]
        rw [hz] at hQ
        simp (disch := first | omega | (simp only [hN] <;> omega) | fail) only [go_sem, simprocAttr, c1, c2, eq5]
        exact hQ _ ⟨by first | omega | (simp only [hN]; omega), fun b hb hne => by (try simp only [hN] at hb hne); simp (disch := first | omega | (simp only [hN] <;> omega) | fail) only [go_sem, simprocAttr, co]⟩
      · have hz : insB c ⟨8, a, b, bits, pos⟩ = (bits == 0) := by simp [insB, hw]
        rw [hz] at hQ
        simp (disch := first | omega | (simp only [hN] <;> omega) | fail) only [go_sem, simprocAttr, c1, c2, eq5]
        exact hQ _ ⟨by first | omega | (simp only [hN]; omega), fun b hb hne => by (try simp only [hN] at hb hne); simp (disch := first | omega | (simp only [hN] <;> omega) | fail) only [go_sem, simprocAttr, co]⟩
    by_cases e9 : op = 9
    · subst e9
      simp (disch := first | omega | (simp only [hN] <;> omega) | fail) only [go_sem, simprocAttr, d2, cdC, insC, b0, b1, b2, eq5, f1.1, f1.2, f2.1, f2.2, f3.1, f3.2, f4.1, f4.2]
      refine array_spec hCH ?_
      intro h2 hf2
      have hn2 := hf2.n; try simp only [hN] at hn2
      have c0 : h2.get h.n = some ⟨0, .cells .own 0 (cdC c pv chv fv bv)⟩ := by simp (disch := first | omega | (simp only [hN] <;> omega) | fail) only [go_sem, simprocAttr, hf2.old, b0]
      have c1 : h2.get (h.n + 1) = some ⟨0, .cells .own 0 (insC ⟨9, a, b, bits, pos⟩)⟩ := by simp (disch := first | omega | (simp only [hN] <;> omega) | fail) only [go_sem, simprocAttr, hf2.old, b1]
      have c2 : h2.get (h.n + 1 + 1) = some ⟨1, .cells .own 0 [.int .i64 9, .int .i64 a, .int .i64 0, .int .u64 0, .int .i64 pos]⟩ := by simp (disch := first | omega | (simp only [hN] <;> omega) | fail) only [go_sem, simprocAttr, hf2.old, b2]
      have co : ∀ b', b' < h.n → h2.get b' = h.get b' := fun b' hb' => by simp (disch := first | omega | (simp only [hN] <;> omega) | fail) only [go_sem, simprocAttr, hf2.old, bo]
      simp only [insC] at c1
      clear hf2
      cases hw : arrayB c a b
      · have hz : insB c ⟨9, a, b, bits, pos⟩ = false := by simp [insB, hw]
        rw [hz] at hQ
        simp (disch := first | omega | (simp only [hN] <;> omega) | fail) only [go_sem, simprocAttr, c1, c2, eq5]
        exact hQ _ ⟨by first | omega | (simp only [hN]; omega), fun b hb hne => by (try simp only [hN] at hb hne); simp (disch := first | omega | (simp only [hN] <;> omega) | fail) only [go_sem, simprocAttr, co]⟩
      · have hz : insB c ⟨9, a, b, bits, pos⟩ = (bits == 0) := by simp [insB, hw]
        rw [hz] at hQ
        simp (disch := first | omega | (simp only [hN] <;> omega) | fail) only [go_sem, simprocAttr, c1, c2, eq5]
        exact hQ _ ⟨by first | omega | (simp only [hN]; omega), fun b hb hne => by (try simp only [hN] at hb hne); simp (disch := first | omega | (simp only [hN] <;> omega) | fail) only [go_sem, simprocAttr, co]⟩
    by_cases e10 : op = 10
    · subst e10
      simp (disch := first | omega | (simp only [hN] <;> omega) | fail) only [go_sem, simprocAttr, d2, cdC, insC, b0, b1, b2, eq5, f1.1, f1.2, f2.1, f2.2, f3.1, f3.2, f4.1, f4.2]
      refine operator_spec (op := 10) (by decide) ?_
      intro h2 hf2
      have hn2 := hf2.n; try simp only [hN] at hn2
      have c1 : h2.get (h.n + 1) = some ⟨0, .cells .own 0 (insC ⟨10, a, b, bits, pos⟩)⟩ := by simp (disch := first | omega | (simp only [hN] <;> omega) | fail) only [go_sem, simprocAttr, hf2.old, b1]
      have c2 : h2.get (h.n + 1 + 1) = some ⟨1, .cells .own 0 [.int .i64 10, .int .i64 a, .int .i64 0, .int .u64 0, .int .i64 pos]⟩ := by simp (disch := first | omega | (simp only [hN] <;> omega) | fail) only [go_sem, simprocAttr, hf2.old, b2]
      have co : ∀ b', b' < h.n → h2.get b' = h.get b' := fun b' hb' => by simp (disch := first | omega | (simp only [hN] <;> omega) | fail) only [go_sem, simprocAttr, hf2.old, bo]
      simp only [insC] at c1
      clear hf2
      have hz : insB c ⟨10, a, b, bits, pos⟩ = (!(opName 10 a).isEmpty && b == 0 && bits == 0) := by simp [insB]
      rw [hz] at hQ
      generalize opName 10 a = nm at *
      by_cases hw : nm = []
      · subst hw
        have g1 : (([] : Bs) != []) = false := rfl
        simp (disch := first | omega | (simp only [hN] <;> omega) | fail) only [go_sem, simprocAttr, c1, c2, eq5, g1]
        exact hQ _ ⟨by first | omega | (simp only [hN]; omega), fun b hb hne => by (try simp only [hN] at hb hne); simp (disch := first | omega | (simp only [hN] <;> omega) | fail) only [go_sem, simprocAttr, co]⟩
      · have g1 : (nm == []) = false := by simp [hw]
        have g2 : nm.isEmpty = false := by simp [hw]
        rw [g2] at hQ
        simp (disch := first | omega | (simp only [hN] <;> omega) | fail) only [go_sem, simprocAttr, c1, c2, eq5, g1]
        exact hQ _ ⟨by first | omega | (simp only [hN]; omega), fun b hb hne => by (try simp only [hN] at hb hne); simp (disch := first | omega | (simp only [hN] <;> omega) | fail) only [go_sem, simprocAttr, co]⟩
    by_cases e11 : op = 11
    · subst e11
      simp (disch := first | omega | (simp only [hN] <;> omega) | fail) only [go_sem, simprocAttr, d2, cdC, insC, b0, b1, b2, eq5, f1.1, f1.2, f2.1, f2.2, f3.1, f3.2, f4.1, f4.2]
      refine operator_spec (op := 11) (by decide) ?_
      intro h2 hf2
      have hn2 := hf2.n; try simp only [hN] at hn2
      have c1 : h2.get (h.n + 1) = some ⟨0, .cells .own 0 (insC ⟨11, a, b, bits, pos⟩)⟩ := by simp (disch := first | omega | (simp only [hN] <;> omega) | fail) only [go_sem, simprocAttr, hf2.old, b1]
      have c2 : h2.get (h.n + 1 + 1) = some ⟨1, .cells .own 0 [.int .i64 11, .int .i64 a, .int .i64 0, .int .u64 0, .int .i64 pos]⟩ := by simp (disch := first | omega | (simp only [hN] <;> omega) | fail) only [go_sem, simprocAttr, hf2.old, b2]
      have co : ∀ b', b' < h.n → h2.get b' = h.get b' := fun b' hb' => by simp (disch := first | omega | (simp only [hN] <;> omega) | fail) only [go_sem, simprocAttr, hf2.old, bo]
      simp only [insC] at c1
      clear hf2
      have hz : insB c ⟨11, a, b, bits, pos⟩ = (!(opName 11 a).isEmpty && b == 0 && bits == 0) := by simp [insB]
      rw [hz] at hQ
      generalize opName 11 a = nm at *
      by_cases hw : nm = []
      · subst hw
        have g1 : (([] : Bs) != []) = false := rfl
        simp (disch := first | omega | (simp only [hN] <;> omega) | fail) only [go_sem, simprocAttr, c1, c2, eq5, g1]
        exact hQ _ ⟨by first | omega | (simp only [hN]; omega), fun b hb hne => by (try simp only [hN] at hb hne); simp (disch := first | omega | (simp only [hN] <;> omega) | fail) only [go_sem, simprocAttr, co]⟩
      · have g1 : (nm == []) = false := by simp [hw]
        have g2 : nm.isEmpty = false := by simp [hw]
        rw [g2] at hQ
        simp (disch := first | omega | (simp only [hN] <;> omega) | fail) only [go_sem, simprocAttr, c1, c2, eq5, g1]
        exact hQ _ ⟨by first | omega | (simp only [hN]; omega), fun b hb hne => by (try simp only [hN] at hb hne); simp (disch := first | omega | (simp only [hN] <;> omega) | fail) only [go_sem, simprocAttr, co]⟩
    by_cases e12 : op = 12
    · subst e12
      simp (disch := first | omega | (simp only [hN] <;> omega) | fail) only [go_sem, simprocAttr, d2, cdC, insC, b0, b1, b2, eq5, f1.1, f1.2, f2.1, f2.2, f3.1, f3.2, f4.1, f4.2, l4]
      refine within_spec ?_
      cases hw : inside a 0 ((c.body.length : Int) - 1)
      · have hz : insB c ⟨12, a, b, bits, pos⟩ = false := by simp [insB, hw]
        rw [hz] at hQ
        simp (disch := first | omega | (simp only [hN] <;> omega) | fail) only [go_sem, simprocAttr, d2, cdC, insC, b0, b1, b2, eq5, f1.1, f1.2, f2.1, f2.2, f3.1, f3.2, f4.1, f4.2]
        exact hQ _ ⟨by first | omega | (simp only [hN]; omega), fun b hb hne => by (try simp only [hN] at hb hne); simp (disch := first | omega | (simp only [hN] <;> omega) | fail) only [go_sem, simprocAttr, bo]⟩
      · have hz : insB c ⟨12, a, b, bits, pos⟩ = (b == 0 && bits == 0) := by simp [insB, hw]
        rw [hz] at hQ
        simp (disch := first | omega | (simp only [hN] <;> omega) | fail) only [go_sem, simprocAttr, d2, cdC, insC, b0, b1, b2, eq5, f1.1, f1.2, f2.1, f2.2, f3.1, f3.2, f4.1, f4.2]
        exact hQ _ ⟨by first | omega | (simp only [hN]; omega), fun b hb hne => by (try simp only [hN] at hb hne); simp (disch := first | omega | (simp only [hN] <;> omega) | fail) only [go_sem, simprocAttr, bo]⟩
    by_cases e13 : op = 13
    · subst e13
      simp (disch := first | omega | (simp only [hN] <;> omega) | fail) only [go_sem, simprocAttr, d2, cdC, insC, b0, b1, b2, eq5, f1.1, f1.2, f2.1, f2.2, f3.1, f3.2, f4.1, f4.2, l4]
      refine within_spec ?_
      cases hw : inside a 0 ((c.body.length : Int) - 1)
      · have hz : insB c ⟨13, a, b, bits, pos⟩ = false := by simp [insB, hw]
        rw [hz] at hQ
        simp (disch := first | omega | (simp only [hN] <;> omega) | fail) only [go_sem, simprocAttr, d2, cdC, insC, b0, b1, b2, eq5, f1.1, f1.2, f2.1, f2.2, f3.1, f3.2, f4.1, f4.2]
        exact hQ _ ⟨by first | omega | (simp only [hN]; omega), fun b hb hne => by (try simp only [hN] at hb hne); simp (disch := first | omega | (simp only [hN] <;> omega) | fail) only [go_sem, simprocAttr, bo]⟩
      · simp (disch := first | omega | (simp only [hN] <;> omega) | fail) only [go_sem, simprocAttr, d2, cdC, insC, b0, b1, b2, eq5, f1.1, f1.2, f2.1, f2.2, f3.1, f3.2, f4.1, f4.2]
        refine within_spec ?_
        cases hw2 : inside b 0 1
        · have hz : insB c ⟨13, a, b, bits, pos⟩ = false := by simp [insB, hw, hw2]
          rw [hz] at hQ
          simp (disch := first | omega | (simp only [hN] <;> omega) | fail) only [go_sem, simprocAttr, d2, cdC, insC, b0, b1, b2, eq5, f1.1, f1.2, f2.1, f2.2, f3.1, f3.2, f4.1, f4.2]
          exact hQ _ ⟨by first | omega | (simp only [hN]; omega), fun b hb hne => by (try simp only [hN] at hb hne); simp (disch := first | omega | (simp only [hN] <;> omega) | fail) only [go_sem, simprocAttr, bo]⟩
        · have hz : insB c ⟨13, a, b, bits, pos⟩ = (bits == 0) := by simp [insB, hw, hw2]
          rw [hz] at hQ
          simp (disch := first | omega | (simp only [hN] <;> omega) | fail) only [go_sem, simprocAttr, d2, cdC, insC, b0, b1, b2, eq5, f1.1, f1.2, f2.1, f2.2, f3.1, f3.2, f4.1, f4.2]
          exact hQ _ ⟨by first | omega | (simp only [hN]; omega), fun b hb hne => by (try simp only [hN] at hb hne); simp (disch := first | omega | (simp only [hN] <;> omega) | fail) only [go_sem, simprocAttr, bo]⟩
    by_cases e14 : op = 14
    · subst e14
      simp (disch := first | omega | (simp only [hN] <;> omega) | fail) only [go_sem, simprocAttr, d2, cdC, insC, b0, b1, b2, eq5, f1.1, f1.2, f2.1, f2.2, f3.1, f3.2, f4.1, f4.2, l4]
      refine within_spec ?_
      cases hw : inside a 0 ((c.body.length : Int) - 1)
      · have hz : insB c ⟨14, a, b, bits, pos⟩ = false := by simp [insB, hw]
        rw [hz] at hQ
        simp (disch := first | omega | (simp only [hN] <;> omega) | fail) only [go_sem, simprocAttr, d2, cdC, insC, b0, b1, b2, eq5, f1.1, f1.2, f2.1, f2.2, f3.1, f3.2, f4.1, f4.2]
        exact hQ _ ⟨by first | omega | (simp only [hN]; omega), fun b hb hne => by (try simp only [hN] at hb hne); simp (disch := first | omega | (simp only [hN] <;> omega) | fail) only [go_sem, simprocAttr, bo]⟩
      · simp (disch := first | omega | (simp only [hN] <;> omega) | fail) only [go_sem, simprocAttr, d2, cdC, insC, b0, b1, b2, eq5, f1.1, f1.2, f2.1, f2.2, f3.1, f3.2, f4.1, f4.2]
        refine within_spec ?_
        cases hw2 : inside b 0 1
        · have hz : insB c ⟨14, a, b, bits, pos⟩ = false := by simp [insB, hw, hw2]
          rw [hz] at hQ
          simp (disch := first | omega | (simp only [hN] <;> omega) | fail) only [go_sem, simprocAttr, d2, cdC, insC, b0, b1, b2, eq5, f1.1, f1.2, f2.1, f2.2, f3.1, f3.2, f4.1, f4.2]
          exact hQ _ ⟨by first | omega | (simp only [hN]; omega), fun b hb hne => by (try simp only [hN] at hb hne); simp (disch := first | omega | (simp only [hN] <;> omega) | fail) only [go_sem, simprocAttr, bo]⟩
        · have hz : insB c ⟨14, a, b, bits, pos⟩ = (bits == 0) := by simp [insB, hw, hw2]
          rw [hz] at hQ
          simp (disch := first | omega | (simp only [hN] <;> omega) | fail) only [go_sem, simprocAttr, d2, cdC, insC, b0, b1, b2, eq5, f1.1, f1.2, f2.1, f2.2, f3.1, f3.2, f4.1, f4.2]
          exact hQ _ ⟨by first | omega | (simp only [hN]; omega), fun b hb hne => by (try simp only [hN] at hb hne); simp (disch := first | omega | (simp only [hN] <;> omega) | fail) only [go_sem, simprocAttr, bo]⟩
    by_cases e15 : op = 15
    · subst e15
      simp (disch := first | omega | (simp only [hN] <;> omega) | fail) only [go_sem, simprocAttr, d2, cdC, insC, b0, b1, b2, eq5, f1.1, f1.2, f2.1, f2.2, f3.1, f3.2, f4.1, f4.2]
      refine within_spec ?_
      cases hw : inside a 0 (c.mutexes - 1)
      · have hz : insB c ⟨15, a, b, bits, pos⟩ = false := by simp [insB, hw]
        rw [hz] at hQ
        simp (disch := first | omega | (simp only [hN] <;> omega) | fail) only [go_sem, simprocAttr, d2, cdC, insC, b0, b1, b2, eq5, f1.1, f1.2, f2.1, f2.2, f3.1, f3.2, f4.1, f4.2]
        exact hQ _ ⟨by first | omega | (simp only [hN]; omega), fun b hb hne => by (try simp only [hN] at hb hne); simp (disch := first | omega | (simp only [hN] <;> omega) | fail) only [go_sem, simprocAttr, bo]⟩
      · have hz : insB c ⟨15, a, b, bits, pos⟩ = (b == 0 && bits == 0) := by simp [insB, hw]
        rw [hz] at hQ
        simp (disch := first | omega | (simp only [hN] <;> omega) | fail) only [go_sem, simprocAttr, d2, cdC, insC, b0, b1, b2, eq5, f1.1, f1.2, f2.1, f2.2, f3.1, f3.2, f4.1, f4.2]
        exact hQ _ ⟨by first | omega | (simp only [hN]; omega), fun b hb hne => by (try simp only [hN] at hb hne); simp (disch := first | omega | (simp only [hN] <;> omega) | fail) only [go_sem, simprocAttr, bo]⟩
    by_cases e16 : op = 16
    · subst e16
      simp (disch := first | omega | (simp only [hN] <;> omega) | fail) only [go_sem, simprocAttr, d2, cdC, insC, b0, b1, b2, eq5, f1.1, f1.2, f2.1, f2.2, f3.1, f3.2, f4.1, f4.2]
      refine within_spec ?_
      cases hw : inside a 0 (c.mutexes - 1)
      · have hz : insB c ⟨16, a, b, bits, pos⟩ = false := by simp [insB, hw]
        rw [hz] at hQ
        simp (disch := first | omega | (simp only [hN] <;> omega) | fail) only [go_sem, simprocAttr, d2, cdC, insC, b0, b1, b2, eq5, f1.1, f1.2, f2.1, f2.2, f3.1, f3.2, f4.1, f4.2]
        exact hQ _ ⟨by first | omega | (simp only [hN]; omega), fun b hb hne => by (try simp only [hN] at hb hne); simp (disch := first | omega | (simp only [hN] <;> omega) | fail) only [go_sem, simprocAttr, bo]⟩
      · have hz : insB c ⟨16, a, b, bits, pos⟩ = (b == 0 && bits == 0) := by simp [insB, hw]
        rw [hz] at hQ
        simp (disch := first | omega | (simp only [hN] <;> omega) | fail) only [go_sem, simprocAttr, d2, cdC, insC, b0, b1, b2, eq5, f1.1, f1.2, f2.1, f2.2, f3.1, f3.2, f4.1, f4.2]
        exact hQ _ ⟨by first | omega | (simp only [hN]; omega), fun b hb hne => by (try simp only [hN] at hb hne); simp (disch := first | omega | (simp only [hN] <;> omega) | fail) only [go_sem, simprocAttr, bo]⟩
    by_cases e17 : op = 17
    · subst e17
      simp (disch := first | omega | (simp only [hN] <;> omega) | fail) only [go_sem, simprocAttr, d2, cdC, insC, b0, b1, b2, eq5, f1.1, f1.2, f2.1, f2.2, f3.1, f3.2, f4.1, f4.2, l2]
      refine within_spec ?_
      cases hw : inside a 0 ((c.chans.length : Int) - 1)
      · have hz : insB c ⟨17, a, b, bits, pos⟩ = false := by simp [insB, hw]
        rw [hz] at hQ
        simp (disch := first | omega | (simp only [hN] <;> omega) | fail) only [go_sem, simprocAttr, d2, cdC, insC, b0, b1, b2, eq5, f1.1, f1.2, f2.1, f2.2, f3.1, f3.2, f4.1, f4.2]
        exact hQ _ ⟨by first | omega | (simp only [hN]; omega), fun b hb hne => by (try simp only [hN] at hb hne); simp (disch := first | omega | (simp only [hN] <;> omega) | fail) only [go_sem, simprocAttr, bo]⟩
      · have hz : insB c ⟨17, a, b, bits, pos⟩ = (b == 0 && bits == 0) := by simp [insB, hw]
        rw [hz] at hQ
        simp (disch := first | omega | (simp only [hN] <;> omega) | fail) only [go_sem, simprocAttr, d2, cdC, insC, b0, b1, b2, eq5, f1.1, f1.2, f2.1, f2.2, f3.1, f3.2, f4.1, f4.2]
        exact hQ _ ⟨by first | omega | (simp only [hN]; omega), fun b hb hne => by (try simp only [hN] at hb hne); simp (disch := first | omega | (simp only [hN] <;> omega) | fail) only [go_sem, simprocAttr, bo]⟩
    by_cases e18 : op = 18
    · subst e18
      simp (disch := first | omega | (simp only [hN] <;> omega) | fail) only [go_sem, simprocAttr, d2, cdC, insC, b0, b1, b2, eq5, f1.1, f1.2, f2.1, f2.2, f3.1, f3.2, f4.1, f4.2, l2]
      refine within_spec ?_
      cases hw : inside a 0 ((c.chans.length : Int) - 1)
      · have hz : insB c ⟨18, a, b, bits, pos⟩ = false := by simp [insB, hw]
        rw [hz] at hQ
        simp (disch := first | omega | (simp only [hN] <;> omega) | fail) only [go_sem, simprocAttr, d2, cdC, insC, b0, b1, b2, eq5, f1.1, f1.2, f2.1, f2.2, f3.1, f3.2, f4.1, f4.2]
        exact hQ _ ⟨by first | omega | (simp only [hN]; omega), fun b hb hne => by (try simp only [hN] at hb hne); simp (disch := first | omega | (simp only [hN] <;> omega) | fail) only [go_sem, simprocAttr, bo]⟩
      · have hz : insB c ⟨18, a, b, bits, pos⟩ = (b == 0 && bits == 0) := by simp [insB, hw]
        rw [hz] at hQ
        simp (disch := first | omega | (simp only [hN] <;> omega) | fail) only [go_sem, simprocAttr, d2, cdC, insC, b0, b1, b2, eq5, f1.1, f1.2, f2.1, f2.2, f3.1, f3.2, f4.1, f4.2]
        exact hQ _ ⟨by first | omega | (simp only [hN]; omega), fun b hb hne => by (try simp only [hN] at hb hne); simp (disch := first | omega | (simp only [hN] <;> omega) | fail) only [go_sem, simprocAttr, bo]⟩
    by_cases e19 : op = 19
    · subst e19
      simp (disch := first | omega | (simp only [hN] <;> omega) | fail) only [go_sem, simprocAttr, d2, cdC, insC, b0, b1, b2, eq5, f1.1, f1.2, f2.1, f2.2, f3.1, f3.2, f4.1, f4.2]
      refine within_spec ?_
      cases hw : inside a 0 (c.atomics - 1)
      · have hz : insB c ⟨19, a, b, bits, pos⟩ = false := by simp [insB, hw]
        rw [hz] at hQ
        simp (disch := first | omega | (simp only [hN] <;> omega) | fail) only [go_sem, simprocAttr, d2, cdC, insC, b0, b1, b2, eq5, f1.1, f1.2, f2.1, f2.2, f3.1, f3.2, f4.1, f4.2]
        exact hQ _ ⟨by first | omega | (simp only [hN]; omega), fun b hb hne => by (try simp only [hN] at hb hne); simp (disch := first | omega | (simp only [hN] <;> omega) | fail) only [go_sem, simprocAttr, bo]⟩
      · have hz : insB c ⟨19, a, b, bits, pos⟩ = (b == 0 && bits == 0) := by simp [insB, hw]
        rw [hz] at hQ
        simp (disch := first | omega | (simp only [hN] <;> omega) | fail) only [go_sem, simprocAttr, d2, cdC, insC, b0, b1, b2, eq5, f1.1, f1.2, f2.1, f2.2, f3.1, f3.2, f4.1, f4.2]
        exact hQ _ ⟨by first | omega | (simp only [hN]; omega), fun b hb hne => by (try simp only [hN] at hb hne); simp (disch := first | omega | (simp only [hN] <;> omega) | fail) only [go_sem, simprocAttr, bo]⟩
    by_cases e20 : op = 20
    · subst e20
      simp (disch := first | omega | (simp only [hN] <;> omega) | fail) only [go_sem, simprocAttr, d2, cdC, insC, b0, b1, b2, eq5, f1.1, f1.2, f2.1, f2.2, f3.1, f3.2, f4.1, f4.2]
      refine within_spec ?_
      cases hw : inside a 0 (c.atomics - 1)
      · have hz : insB c ⟨20, a, b, bits, pos⟩ = false := by simp [insB, hw]
        rw [hz] at hQ
        simp (disch := first | omega | (simp only [hN] <;> omega) | fail) only [go_sem, simprocAttr, d2, cdC, insC, b0, b1, b2, eq5, f1.1, f1.2, f2.1, f2.2, f3.1, f3.2, f4.1, f4.2]
        exact hQ _ ⟨by first | omega | (simp only [hN]; omega), fun b hb hne => by (try simp only [hN] at hb hne); simp (disch := first | omega | (simp only [hN] <;> omega) | fail) only [go_sem, simprocAttr, bo]⟩
      · have hz : insB c ⟨20, a, b, bits, pos⟩ = (b == 0 && bits == 0) := by simp [insB, hw]
        rw [hz] at hQ
        simp (disch := first | omega | (simp only [hN] <;> omega) | fail) only [go_sem, simprocAttr, d2, cdC, insC, b0, b1, b2, eq5, f1.1, f1.2, f2.1, f2.2, f3.1, f3.2, f4.1, f4.2]
        exact hQ _ ⟨by first | omega | (simp only [hN]; omega), fun b hb hne => by (try simp only [hN] at hb hne); simp (disch := first | omega | (simp only [hN] <;> omega) | fail) only [go_sem, simprocAttr, bo]⟩
    by_cases e21 : op = 21
    · subst e21
      simp (disch := first | omega | (simp only [hN] <;> omega) | fail) only [go_sem, simprocAttr, d2, cdC, insC, b0, b1, b2, eq5, f1.1, f1.2, f2.1, f2.2, f3.1, f3.2, f4.1, f4.2]
      refine within_spec ?_
      cases hw : inside a 0 (c.atomics - 1)
      · have hz : insB c ⟨21, a, b, bits, pos⟩ = false := by simp [insB, hw]
        rw [hz] at hQ
        simp (disch := first | omega | (simp only [hN] <;> omega) | fail) only [go_sem, simprocAttr, d2, cdC, insC, b0, b1, b2, eq5, f1.1, f1.2, f2.1, f2.2, f3.1, f3.2, f4.1, f4.2]
        exact hQ _ ⟨by first | omega | (simp only [hN]; omega), fun b hb hne => by (try simp only [hN] at hb hne); simp (disch := first | omega | (simp only [hN] <;> omega) | fail) only [go_sem, simprocAttr, bo]⟩
      · have hz : insB c ⟨21, a, b, bits, pos⟩ = (b == 0 && bits == 0) := by simp [insB, hw]
        rw [hz] at hQ
        simp (disch := first | omega | (simp only [hN] <;> omega) | fail) only [go_sem, simprocAttr, d2, cdC, insC, b0, b1, b2, eq5, f1.1, f1.2, f2.1, f2.2, f3.1, f3.2, f4.1, f4.2]
        exact hQ _ ⟨by first | omega | (simp only [hN]; omega), fun b hb hne => by (try simp only [hN] at hb hne); simp (disch := first | omega | (simp only [hN] <;> omega) | fail) only [go_sem, simprocAttr, bo]⟩
    by_cases e22 : op = 22
    · subst e22
      simp (disch := first | omega | (simp only [hN] <;> omega) | fail) only [go_sem, simprocAttr, d2, cdC, insC, b0, b1, b2, eq5, f1.1, f1.2, f2.1, f2.2, f3.1, f3.2, f4.1, f4.2, l3]
      refine within_spec ?_
      cases hw : inside a 0 ((c.funcs.length : Int) - 1)
      · have hz : insB c ⟨22, a, b, bits, pos⟩ = false := by simp [insB, hw]
        rw [hz] at hQ
        simp (disch := first | omega | (simp only [hN] <;> omega) | fail) only [go_sem, simprocAttr, d2, cdC, insC, b0, b1, b2, eq5, f1.1, f1.2, f2.1, f2.2, f3.1, f3.2, f4.1, f4.2]
        exact hQ _ ⟨by first | omega | (simp only [hN]; omega), fun b hb hne => by (try simp only [hN] at hb hne); simp (disch := first | omega | (simp only [hN] <;> omega) | fail) only [go_sem, simprocAttr, bo]⟩
      · have hz : insB c ⟨22, a, b, bits, pos⟩ = (b == 0 && bits == 0) := by simp [insB, hw]
        rw [hz] at hQ
        simp (disch := first | omega | (simp only [hN] <;> omega) | fail) only [go_sem, simprocAttr, d2, cdC, insC, b0, b1, b2, eq5, f1.1, f1.2, f2.1, f2.2, f3.1, f3.2, f4.1, f4.2]
        exact hQ _ ⟨by first | omega | (simp only [hN]; omega), fun b hb hne => by (try simp only [hN] at hb hne); simp (disch := first | omega | (simp only [hN] <;> omega) | fail) only [go_sem, simprocAttr, bo]⟩
    by_cases e23 : op = 23
    · subst e23
      simp (disch := first | omega | (simp only [hN] <;> omega) | fail) only [go_sem, simprocAttr, d2, cdC, insC, b0, b1, b2, eq5, f1.1, f1.2, f2.1, f2.2, f3.1, f3.2, f4.1, f4.2, l3]
      refine within_spec ?_
      cases hw : inside a 0 ((c.funcs.length : Int) - 1)
      · have hz : insB c ⟨23, a, b, bits, pos⟩ = false := by simp [insB, hw]
        rw [hz] at hQ
        simp (disch := first | omega | (simp only [hN] <;> omega) | fail) only [go_sem, simprocAttr, d2, cdC, insC, b0, b1, b2, eq5, f1.1, f1.2, f2.1, f2.2, f3.1, f3.2, f4.1, f4.2]
        exact hQ _ ⟨by first | omega | (simp only [hN]; omega), fun b hb hne => by (try simp only [hN] at hb hne); simp (disch := first | omega | (simp only [hN] <;> omega) | fail) only [go_sem, simprocAttr, bo]⟩
      · have hz : insB c ⟨23, a, b, bits, pos⟩ = (b == 0 && bits == 0) := by simp [insB, hw]
        rw [hz] at hQ
        simp (disch := first | omega | (simp only [hN] <;> omega) | fail) only [go_sem, simprocAttr, d2, cdC, insC, b0, b1, b2, eq5, f1.1, f1.2, f2.1, f2.2, f3.1, f3.2, f4.1, f4.2]
        exact hQ _ ⟨by first | omega | (simp only [hN]; omega), fun b hb hne => by (try simp only [hN] at hb hne); simp (disch := first | omega | (simp only [hN] <;> omega) | fail) only [go_sem, simprocAttr, bo]⟩
    by_cases e24 : op = 24
    · subst e24
      simp (disch := first | omega | (simp only [hN] <;> omega) | fail) only [go_sem, simprocAttr, d2, cdC, insC, b0, b1, b2, eq5, f1.1, f1.2, f2.1, f2.2, f3.1, f3.2, f4.1, f4.2]
      have hz : insB c ⟨24, a, b, bits, pos⟩ = (a == 0 && b == 0 && bits == 0) := by simp [insB]
      rw [hz] at hQ
      exact hQ _ ⟨by first | omega | (simp only [hN]; omega), fun b hb hne => by (try simp only [hN] at hb hne); simp (disch := first | omega | (simp only [hN] <;> omega) | fail) only [go_sem, simprocAttr, bo]⟩
    by_cases e25 : op = 25
    · subst e25
      simp (disch := first | omega | (simp only [hN] <;> omega) | fail) only [go_sem, simprocAttr, d2, cdC, insC, b0, b1, b2, eq5, f1.1, f1.2, f2.1, f2.2, f3.1, f3.2, f4.1, f4.2]
      have hz : insB c ⟨25, a, b, bits, pos⟩ = (a == 0 && b == 0 && bits == 0) := by simp [insB]
      rw [hz] at hQ
      exact hQ _ ⟨by first | omega | (simp only [hN]; omega), fun b hb hne => by (try simp only [hN] at hb hne); simp (disch := first | omega | (simp only [hN] <;> omega) | fail) only [go_sem, simprocAttr, bo]⟩
    by_cases e26 : op = 26
    · subst e26
      simp (disch := first | omega | (simp only [hN] <;> omega) | fail) only [go_sem, simprocAttr, d2, cdC, insC, b0, b1, b2, eq5, f1.1, f1.2, f2.1, f2.2, f3.1, f3.2, f4.1, f4.2]
      have hz : insB c ⟨26, a, b, bits, pos⟩ = (a == 0 && b == 0 && bits == 0) := by simp [insB]
      rw [hz] at hQ
      exact hQ _ ⟨by first | omega | (simp only [hN]; omega), fun b hb hne => by (try simp only [hN] at hb hne); simp (disch := first | omega | (simp only [hN] <;> omega) | fail) only [go_sem, simprocAttr, bo]⟩
    have g1 : (op == 1) = false := by simp [e1]
    have g2 : (op == 2) = false := by simp [e2]
    have g3 : (op == 3) = false := by simp [e3]
    have g4 : (op == 4) = false := by simp [e4]
    have g5 : (op == 5) = false := by simp [e5]
    have g6 : (op == 6) = false := by simp [e6]
    have g7 : (op == 7) = false := by simp [e7]
    have g8 : (op == 8) = false := by simp [e8]
    have g9 : (op == 9) = false := by simp [e9]
    have g10 : (op == 10) = false := by simp [e10]
    have g11 : (op == 11) = false := by simp [e11]
    have g12 : (op == 12) = false := by simp [e12]
    have g13 : (op == 13) = false := by simp [e13]
    have g14 : (op == 14) = false := by simp [e14]
    have g15 : (op == 15) = false := by simp [e15]
    have g16 : (op == 16) = false := by simp [e16]
    have g17 : (op == 17) = false := by simp [e17]
    have g18 : (op == 18) = false := by simp [e18]
    have g19 : (op == 19) = false := by simp [e19]
    have g20 : (op == 20) = false := by simp [e20]
    have g21 : (op == 21) = false := by simp [e21]
    have g22 : (op == 22) = false := by simp [e22]
    have g23 : (op == 23) = false := by simp [e23]
    have g24 : (op == 24) = false := by simp [e24]
    have g25 : (op == 25) = false := by simp [e25]
    have g26 : (op == 26) = false := by simp [e26]
    simp (disch := first | omega | (simp only [hN] <;> omega) | fail) only [go_sem, simprocAttr, d2, cdC, insC, b0, b1, b2, eq5, f1.1, f1.2, f2.1, f2.2, f3.1, f3.2, f4.1, f4.2, g1, g2, g3, g4, g5, g6, g7, g8, g9, g10, g11, g12, g13, g14, g15, g16, g17, g18, g19, g20, g21, g22, g23, g24, g25, g26]
    have hz : insB c ⟨op, a, b, bits, pos⟩ = false := by simp [insB, e1, e2, e3, e4, e5, e6, e7, e8, e9, e10, e11, e12, e13, e14, e15, e16, e17, e18, e19, e20, e21, e22, e23, e24, e25, e26]
    rw [hz] at hQ
    exact hQ _ ⟨by first | omega | (simp only [hN]; omega), fun b hb hne => by (try simp only [hN] at hb hne); simp (disch := first | omega | (simp only [hN] <;> omega) | fail) only [go_sem, simprocAttr, bo]⟩
end Go.Ev
