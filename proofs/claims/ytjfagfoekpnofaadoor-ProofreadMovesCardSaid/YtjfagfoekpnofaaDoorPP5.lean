/- Proofread: codes in memory. -/
import Derived.Test.YtjfagfoekpnofaaDoorPP2
set_option linter.all false
set_option linter.unusedVariables false
set_option linter.unusedSimpArgs false
namespace Go.Ev
open Go
set_option maxRecDepth 100000
set_option maxHeartbeats 4000000

def enC (f : En) (lv : AV) : List AV := [.int .i64 f.start, .int .i64 f.params, lv]
/-- Functions in memory. -/
inductive EnsV (h : AHeap) : List En → List AV → Prop where
  | nil : EnsV h [] []
  | cons {f : En} {l : List En} {lv : AV} {css : List AV} : IntsC h f.locals lv → EnsV h l css → EnsV h (f :: l) (enC f lv ++ css)
theorem EnsV.fr {h h' : AHeap} (f : Fr h.n h h') : {l : List En} → {css : List AV} → EnsV h l css → EnsV h' l css
  | _, _, .nil => .nil
  | _, _, .cons a b => .cons (a.fr f) (b.fr f)
theorem EnsV.len {h : AHeap} : {l : List En} → {css : List AV} → EnsV h l css → css.length = l.length * 3
  | _, _, .nil => rfl
  | _, _, .cons a b => by rw [List.length_append, b.len, List.length_cons]; simp [enC]; omega
theorem EnsV.at {h : AHeap} : {l : List En} → {css : List AV} → EnsV h l css → ∀ {i : Nat} (hi : i < l.length), ∃ lv, row css (i * 3) 3 = some (enC l[i] lv) ∧ IntsC h l[i].locals lv
  | _, _, .nil, i, hi => absurd hi (Nat.not_lt_zero _)
  | _, _, .cons (f := f) (l := l) (lv := lv) (css := css) k r, 0, _ => by
    refine ⟨lv, ?_, k⟩
    rw [Nat.zero_mul, row_mk (by simp [enC])]
    simp [enC]
  | _, _, .cons (f := f) (l := l) (lv := lv) (css := css) k r, i + 1, hi => by
    obtain ⟨lv', h1, h2⟩ := r.at (i := i) (by simpa using hi)
    refine ⟨lv', ?_, h2⟩
    obtain ⟨h3, h4⟩ := row_inv h1
    have e : (i + 1) * 3 = (enC f lv).length + i * 3 := by simp [enC]; omega
    rw [List.getElem_cons_succ, h4, e, row_mk (by rw [List.length_append]; omega), List.drop_append, List.drop_of_length_le (by omega), List.nil_append]
    congr 3
    omega
def chC (x : Int × Int) : List AV := [.int .i64 x.1, .int .i64 x.2]
/-- A code in memory. -/
structure CdV (h : AHeap) (c : Cd) (pv chv fv bv : AV) : Prop where
  places : IntsC h c.places pv
  chans : SlV h 2 c.chans.length (c.chans.flatMap chC) chv
  funcs : ∃ css, EnsV h c.funcs css ∧ SlV h 3 c.funcs.length css fv
  body : SlV h 5 c.body.length (c.body.flatMap insC) bv
theorem CdV.fr {h h' : AHeap} {c : Cd} {pv chv fv bv : AV} (k : CdV h c pv chv fv bv) (f : Fr h.n h h') : CdV h' c pv chv fv bv :=
  ⟨k.places.fr f, k.chans.fr f, by obtain ⟨css, h1, h2⟩ := k.funcs; exact ⟨css, h1.fr f, h2.fr f⟩, k.body.fr f⟩
def cdC (c : Cd) (pv chv fv bv : AV) : List AV := [pv, .int .i64 c.mutexes, .int .i64 c.atomics, chv, fv, .int .i64 c.main, bv]
/-- A reader of a function of a code. -/
structure RdV (h : AHeap) (r : Nat) (c : Cd) (fn : En) (st en : Int) (vS vM : AV) : Prop where
  hi : r < h.n
  st : ∃ ver pv chv fv bv lv, h.get r = some ⟨ver, .cells .own 0 (cdC c pv chv fv bv ++ (enC fn lv ++ [.int .i64 st, .int .i64 en, vS, vM]))⟩ ∧ CdV h c pv chv fv bv ∧ IntsC h fn.locals lv
theorem RdV.fr {h h' : AHeap} {r : Nat} {c : Cd} {fn : En} {st en : Int} {vS vM : AV} (k : RdV h r c fn st en vS vM) (f : Fr h.n h h') : RdV h' r c fn st en vS vM := by
  obtain ⟨h1, ver, pv, chv, fv, bv, lv, h2, h3, h4⟩ := k
  exact ⟨Nat.lt_of_lt_of_le h1 f.n, ver, pv, chv, fv, bv, lv, (f.all h1).trans h2, h3.fr f, h4.fr f⟩
theorem push_leaf {l : List Int} {t : Int} {h h0 : AHeap} {v v0 : AV} (hv : IntsV h l v) (hf : Fr h0.n h0 h) {Q : QR} (hQ : match pushP l t with
      | none => ∀ h', Fr h0.n h0 h' → Q wrongP h'
      | some s => ∀ h' u, Fr h0.n h0 h' → IntsC h' s u → (∀ lo, lo ≤ h0.n → LoV lo v0 → LoV lo u) → Q (.ret u) h') : WF F 39 [v, .int .i64 t] h Q := by
  refine push_spec hv ?_
  revert hQ
  cases pushP l t with
  | none => exact fun hQ => hQ _ hf
  | some s => exact fun hQ h' u hf' hu hlo => hQ h' u (hf.trans (hf'.any (Nat.le_refl _))) hu fun lo hl _ b o n c ex e => Nat.le_trans (Nat.le_trans hl hf.n) (hlo b o n c ex e)
theorem pop_leaf {l m : List Int} {h h0 : AHeap} {v w : AV} (hv : IntsC h l v) (hw : IntsV h m w) (hf : Fr h0.n h0 h) {Q : QR} (hQ : match popP l m with
      | none => ∀ h', Fr h0.n h0 h' → Q wrongP h'
      | some s => ∀ h' u, Fr h0.n h0 h' → IntsC h' s u → (∀ lo, lo ≤ h0.n → LoV lo v → LoV lo u) → Q (.ret u) h') : WF F 29 [v, w] h Q := by
  refine pop_spec hv hw ?_
  revert hQ
  cases popP l m with
  | none => exact fun hQ => hQ _ hf
  | some s => exact fun hQ u hu hlo => hQ h u hf hu fun lo _ => hlo lo
theorem ints_new {h : AHeap} {b ver c : Nat} {ex : Bool} {l : List Int} (hs : l.length < 2 ^ 61) (hb : b < h.n) (hg : h.get b = some ⟨ver, .cells .own 1 (l.map fun x => .int .i64 x)⟩) : IntsV h l (.slice b 0 l.length c ex) := by
  by_cases h0 : l.length = 0
  · rw [h0, List.length_eq_zero_iff.1 h0]; exact .emp
  · exact .row (by omega) hs hb hg (row_all (by simp))
theorem does_spec {c : Cd} {fn : En} {x : Ins} {st en : Int} {s : List Int} {r : Nat} {vS vM v : AV} {h : AHeap} (hx : insB c x = true) (hF : ∀ f ∈ c.funcs, 0 ≤ f.params ∧ f.params ≤ f.locals.length) (hR : RdV h r c fn st en vS vM) (hv : IntsC h s v) {Q : QR} (hQ : match doesP c fn x s with
      | none => ∀ h', Fr h.n h h' → Q wrongP h'
      | some s' => ∀ h' u, Fr h.n h h' → IntsC h' s' u → (∀ lo, lo ≤ h.n → LoV lo v → LoV lo u) → Q (.ret u) h') : WF F 30 [.ptr r 0, .agg (insC x), v] h Q := by
  refine WF.code F30 rfl ?_
  obtain ⟨hi, ver, pv, chv, fv, bv, lv, hr, hC, hl⟩ := hR
  simp only [cdC, enC, List.cons_append, List.nil_append] at hr
  obtain ⟨op, a, b, bits, pos⟩ := x
  have hfv := hv.1.flat
  have hfl := hl.1.flat
  have hfp := hC.places.1.flat
  have hlen := hv.1.len
  by_cases e1 : op = 1
  · subst e1
    have hd : doesP c fn ⟨1, a, b, bits, pos⟩ s = pushP s 1 := by simp [doesP]
    rw [hd] at hQ
    simp (disch := first | omega | (simp only [hN] <;> omega) | fail) only [go_sem, simprocAttr, insC, hr, hfv.1, hfv.2]
    refine push_leaf (h0 := h) (v0 := v) (hv.1.fr ⟨by first | omega | (simp only [hN]; omega), fun b hb hne => by (try simp only [hN] at hb hne); simp (disch := first | omega | (simp only [hN] <;> omega) | fail) only [go_sem, simprocAttr]⟩) ⟨by first | omega | (simp only [hN]; omega), fun b hb hne => by (try simp only [hN] at hb hne); simp (disch := first | omega | (simp only [hN] <;> omega) | fail) only [go_sem, simprocAttr]⟩ ?_
    revert hQ
    cases pushP s 1 with
    | none => exact fun hQ h' hf => by simp (disch := first | omega | (simp only [hN] <;> omega) | fail) only [go_sem, simprocAttr]; exact hQ _ hf
    | some s' => exact fun hQ h' u hf hu hlo => by simp (disch := first | omega | (simp only [hN] <;> omega) | fail) only [go_sem, simprocAttr]; exact hQ _ _ hf hu hlo
  by_cases e2 : op = 2
  · subst e2
    have hd : doesP c fn ⟨2, a, b, bits, pos⟩ s = pushP s 2 := by simp [doesP]
    rw [hd] at hQ
    simp (disch := first | omega | (simp only [hN] <;> omega) | fail) only [go_sem, simprocAttr, insC, hr, hfv.1, hfv.2]
    refine push_leaf (h0 := h) (v0 := v) (hv.1.fr ⟨by first | omega | (simp only [hN]; omega), fun b hb hne => by (try simp only [hN] at hb hne); simp (disch := first | omega | (simp only [hN] <;> omega) | fail) only [go_sem, simprocAttr]⟩) ⟨by first | omega | (simp only [hN]; omega), fun b hb hne => by (try simp only [hN] at hb hne); simp (disch := first | omega | (simp only [hN] <;> omega) | fail) only [go_sem, simprocAttr]⟩ ?_
    revert hQ
    cases pushP s 2 with
    | none => exact fun hQ h' hf => by simp (disch := first | omega | (simp only [hN] <;> omega) | fail) only [go_sem, simprocAttr]; exact hQ _ hf
    | some s' => exact fun hQ h' u hf hu hlo => by simp (disch := first | omega | (simp only [hN] <;> omega) | fail) only [go_sem, simprocAttr]; exact hQ _ _ hf hu hlo
  by_cases e3 : op = 3
  · subst e3
    have hd : doesP c fn ⟨3, a, b, bits, pos⟩ s = pushP s 3 := by simp [doesP]
    rw [hd] at hQ
    simp (disch := first | omega | (simp only [hN] <;> omega) | fail) only [go_sem, simprocAttr, insC, hr, hfv.1, hfv.2]
    refine push_leaf (h0 := h) (v0 := v) (hv.1.fr ⟨by first | omega | (simp only [hN]; omega), fun b hb hne => by (try simp only [hN] at hb hne); simp (disch := first | omega | (simp only [hN] <;> omega) | fail) only [go_sem, simprocAttr]⟩) ⟨by first | omega | (simp only [hN]; omega), fun b hb hne => by (try simp only [hN] at hb hne); simp (disch := first | omega | (simp only [hN] <;> omega) | fail) only [go_sem, simprocAttr]⟩ ?_
    revert hQ
    cases pushP s 3 with
    | none => exact fun hQ h' hf => by simp (disch := first | omega | (simp only [hN] <;> omega) | fail) only [go_sem, simprocAttr]; exact hQ _ hf
    | some s' => exact fun hQ h' u hf hu hlo => by simp (disch := first | omega | (simp only [hN] <;> omega) | fail) only [go_sem, simprocAttr]; exact hQ _ _ hf hu hlo
  by_cases e4 : op = 4
  · subst e4
    simp [insB, inside] at hx
    obtain ⟨n, rfl⟩ := Int.eq_ofNat_of_zero_le (show 0 ≤ a by omega)
    have hll := hl.1.len
    have hd : doesP c fn ⟨4, n, b, bits, pos⟩ s = if (n : Int) < fn.locals.length then pushP s (fn.locals.getD n 0) else none := by simp [doesP]
    rw [hd] at hQ
    simp (disch := first | omega | (simp only [hN] <;> omega) | fail) only [go_sem, simprocAttr, insC, hr, hfv.1, hfv.2, hll, hfl.1, hfl.2]
    refine need_spec ?_
    by_cases hn : n < fn.locals.length
    · rw [if_pos (by omega)] at hQ
      rw [if_pos (by simp [hn])]
      obtain ⟨b', o, cp, ex, ver', md, bs, rfl, hb, hg, hrr⟩ := ints_at hl.1 hn
      have hgd : fn.locals.getD n 0 = fn.locals[n] := by simp [List.getD, hn]
      rw [hgd] at hQ
      have i0 : ((n : Int) < (fn.locals.length : Int)) = True := by simp [hn]
      simp (disch := first | omega | (simp only [hN] <;> omega) | fail) only [go_sem, simprocAttr, insC, hr, hfv.1, hfv.2, hll, hg, hrr, i0, Nat.mul_one, Int.toNat_natCast]
      refine push_leaf (h0 := h) (v0 := v) (hv.1.fr ⟨by first | omega | (simp only [hN]; omega), fun b hb hne => by (try simp only [hN] at hb hne); simp (disch := first | omega | (simp only [hN] <;> omega) | fail) only [go_sem, simprocAttr]⟩) ⟨by first | omega | (simp only [hN]; omega), fun b hb hne => by (try simp only [hN] at hb hne); simp (disch := first | omega | (simp only [hN] <;> omega) | fail) only [go_sem, simprocAttr]⟩ ?_
      revert hQ
      cases pushP s fn.locals[n] with
      | none => exact fun hQ h' hf => by simp (disch := first | omega | (simp only [hN] <;> omega) | fail) only [go_sem, simprocAttr]; exact hQ _ hf
      | some s' => exact fun hQ h' u hf hu hlo => by simp (disch := first | omega | (simp only [hN] <;> omega) | fail) only [go_sem, simprocAttr]; exact hQ _ _ hf hu hlo
    · rw [if_neg (by omega)] at hQ
      rw [if_neg (by simp; omega)]
      simp (disch := first | omega | (simp only [hN] <;> omega) | fail) only [go_sem, simprocAttr]
      exact hQ _ ⟨by first | omega | (simp only [hN]; omega), fun b hb hne => by (try simp only [hN] at hb hne); simp (disch := first | omega | (simp only [hN] <;> omega) | fail) only [go_sem, simprocAttr]⟩
  by_cases e5 : op = 5
  · subst e5
    simp [insB, inside] at hx
    obtain ⟨n, rfl⟩ := Int.eq_ofNat_of_zero_le (show 0 ≤ a by omega)
    have hll := hl.1.len
    have hd : doesP c fn ⟨5, n, b, bits, pos⟩ s = if (n : Int) < fn.locals.length then popP s [fn.locals.getD n 0] else none := by simp [doesP]
    rw [hd] at hQ
    simp (disch := first | omega | (simp only [hN] <;> omega) | fail) only [go_sem, simprocAttr, insC, hr, hfv.1, hfv.2, hll, hfl.1, hfl.2]
    refine need_spec ?_
    by_cases hn : n < fn.locals.length
    · rw [if_pos (by omega)] at hQ
      rw [if_pos (by simp [hn])]
      obtain ⟨b', o, cp, ex, ver', md, bs, rfl, hb, hg, hrr⟩ := ints_at hl.1 hn
      have hgd : fn.locals.getD n 0 = fn.locals[n] := by simp [List.getD, hn]
      rw [hgd] at hQ
      have i0 : ((n : Int) < (fn.locals.length : Int)) = True := by simp [hn]
      simp (disch := first | omega | (simp only [hN] <;> omega) | fail) only [go_sem, simprocAttr, insC, hr, hfv.1, hfv.2, hll, hg, hrr, i0, Nat.mul_one, Int.toNat_natCast]
      refine pop_leaf (h0 := h) (m := [fn.locals[n]]) (hv.fr ⟨by first | omega | (simp only [hN]; omega), fun b hb hne => by (try simp only [hN] at hb hne); simp (disch := first | omega | (simp only [hN] <;> omega) | fail) only [go_sem, simprocAttr]⟩) (ints_new (ver := 0) (l := [fn.locals[n]]) (by simp) (by simp (disch := first | omega | (simp only [hN] <;> omega) | fail) only [go_sem, simprocAttr]; omega) (by (first | (simp (disch := first | omega | (simp only [hN] <;> omega) | fail) only [go_sem, simprocAttr]; done) | (simp (disch := first | omega | (simp only [hN] <;> omega) | fail) only [go_sem, simprocAttr]; rfl)))) ⟨by first | omega | (simp only [hN]; omega), fun b hb hne => by (try simp only [hN] at hb hne); simp (disch := first | omega | (simp only [hN] <;> omega) | fail) only [go_sem, simprocAttr]⟩ ?_
      revert hQ
      cases popP s [fn.locals[n]] with
      | none => exact fun hQ h' hf => by simp (disch := first | omega | (simp only [hN] <;> omega) | fail) only [go_sem, simprocAttr]; exact hQ _ hf
      | some s' => exact fun hQ h' u hf hu hlo => by simp (disch := first | omega | (simp only [hN] <;> omega) | fail) only [go_sem, simprocAttr]; exact hQ _ _ hf hu hlo
    · rw [if_neg (by omega)] at hQ
      rw [if_neg (by simp; omega)]
      simp (disch := first | omega | (simp only [hN] <;> omega) | fail) only [go_sem, simprocAttr]
      exact hQ _ ⟨by first | omega | (simp only [hN]; omega), fun b hb hne => by (try simp only [hN] at hb hne); simp (disch := first | omega | (simp only [hN] <;> omega) | fail) only [go_sem, simprocAttr]⟩
  by_cases e6 : op = 6
  · subst e6
    simp [insB, inside] at hx
    obtain ⟨n, rfl⟩ := Int.eq_ofNat_of_zero_le (show 0 ≤ a by omega)
    have hn : n < c.places.length := by omega
    have hgd : c.places.getD n 0 = c.places[n] := by simp [List.getD, hn]
    have hd : doesP c fn ⟨6, n, b, bits, pos⟩ s = pushP s c.places[n] := by simp [doesP, hn]
    rw [hd] at hQ
    obtain ⟨b', o, cp, ex, ver', md, bs, rfl, hb, hg, hrr⟩ := ints_at hC.places.1 hn
    have i0 : ((n : Int) < (c.places.length : Int)) = True := by simp [hn]
    simp (disch := first | omega | (simp only [hN] <;> omega) | fail) only [go_sem, simprocAttr, insC, hr, hfv.1, hfv.2, hg, hrr, i0, Nat.mul_one, Int.toNat_natCast]
    refine push_leaf (h0 := h) (v0 := v) (hv.1.fr ⟨by first | omega | (simp only [hN]; omega), fun b hb hne => by (try simp only [hN] at hb hne); simp (disch := first | omega | (simp only [hN] <;> omega) | fail) only [go_sem, simprocAttr]⟩) ⟨by first | omega | (simp only [hN]; omega), fun b hb hne => by (try simp only [hN] at hb hne); simp (disch := first | omega | (simp only [hN] <;> omega) | fail) only [go_sem, simprocAttr]⟩ ?_
    revert hQ
    cases pushP s c.places[n] with
    | none => exact fun hQ h' hf => by simp (disch := first | omega | (simp only [hN] <;> omega) | fail) only [go_sem, simprocAttr]; exact hQ _ hf
    | some s' => exact fun hQ h' u hf hu hlo => by simp (disch := first | omega | (simp only [hN] <;> omega) | fail) only [go_sem, simprocAttr]; exact hQ _ _ hf hu hlo
  by_cases e7 : op = 7
  · subst e7
    simp [insB, inside] at hx
    obtain ⟨n, rfl⟩ := Int.eq_ofNat_of_zero_le (show 0 ≤ a by omega)
    have hn : n < c.places.length := by omega
    have hgd : c.places.getD n 0 = c.places[n] := by simp [List.getD, hn]
    have hd : doesP c fn ⟨7, n, b, bits, pos⟩ s = popP s [c.places[n]] := by simp [doesP, hn]
    rw [hd] at hQ
    obtain ⟨b', o, cp, ex, ver', md, bs, rfl, hb, hg, hrr⟩ := ints_at hC.places.1 hn
    have i0 : ((n : Int) < (c.places.length : Int)) = True := by simp [hn]
    simp (disch := first | omega | (simp only [hN] <;> omega) | fail) only [go_sem, simprocAttr, insC, hr, hfv.1, hfv.2, hg, hrr, i0, Nat.mul_one, Int.toNat_natCast]
    refine pop_leaf (h0 := h) (m := [c.places[n]]) (hv.fr ⟨by first | omega | (simp only [hN]; omega), fun b hb hne => by (try simp only [hN] at hb hne); simp (disch := first | omega | (simp only [hN] <;> omega) | fail) only [go_sem, simprocAttr]⟩) (ints_new (ver := 0) (l := [c.places[n]]) (by simp) (by simp (disch := first | omega | (simp only [hN] <;> omega) | fail) only [go_sem, simprocAttr]; omega) (by (first | (simp (disch := first | omega | (simp only [hN] <;> omega) | fail) only [go_sem, simprocAttr]; done) | (simp (disch := first | omega | (simp only [hN] <;> omega) | fail) only [go_sem, simprocAttr]; rfl)))) ⟨by first | omega | (simp only [hN]; omega), fun b hb hne => by (try simp only [hN] at hb hne); simp (disch := first | omega | (simp only [hN] <;> omega) | fail) only [go_sem, simprocAttr]⟩ ?_
    revert hQ
    cases popP s [c.places[n]] with
    | none => exact fun hQ h' hf => by simp (disch := first | omega | (simp only [hN] <;> omega) | fail) only [go_sem, simprocAttr]; exact hQ _ hf
    | some s' => exact fun hQ h' u hf hu hlo => by simp (disch := first | omega | (simp only [hN] <;> omega) | fail) only [go_sem, simprocAttr]; exact hQ _ _ hf hu hlo
  by_cases e8 : op = 8
  · subst e8
    simp [insB, arrayB, inside] at hx
    obtain ⟨n, rfl⟩ := Int.eq_ofNat_of_zero_le (show 0 ≤ a by omega)
    have hn : n < c.places.length := by omega
    have hgd : c.places.getD n 0 = c.places[n] := by simp [List.getD, hn]
    have hd : doesP c fn ⟨8, n, b, bits, pos⟩ s = (popP s [1]).bind fun s => pushP s c.places[n] := by simp [doesP, hn]
    rw [hd] at hQ
    obtain ⟨b', o, cp, ex, ver', md, bs, rfl, hb, hg, hrr⟩ := ints_at hC.places.1 hn
    have i0 : ((n : Int) < (c.places.length : Int)) = True := by simp [hn]
    have d1 : decide (r = h.n + 1) = false := decide_eq_false (by omega)
    have d2 : decide (h.n = h.n + 1) = false := decide_eq_false (by omega)
    have d3 : decide (b' = h.n + 1) = false := decide_eq_false (by omega)
    simp (disch := first | omega | (simp only [hN] <;> omega) | fail) only [go_sem, simprocAttr, insC, hr, hfv.1, hfv.2]
    refine pop_spec (l := s) (m := [1]) (hv.fr ?_) ?_ ?_
    · exact ⟨by first | omega | (simp only [hN]; omega), fun b hb hne => by (try simp only [hN] at hb hne); simp (disch := first | omega | (simp only [hN] <;> omega) | fail) only [go_sem, simprocAttr]⟩
    · exact ints_new (ver := 0) (l := [1]) (by simp) (by simp (disch := first | omega | (simp only [hN] <;> omega) | fail) only [go_sem, simprocAttr]; omega) (by (first | (simp (disch := first | omega | (simp only [hN] <;> omega) | fail) only [go_sem, simprocAttr]; done) | (simp (disch := first | omega | (simp only [hN] <;> omega) | fail) only [go_sem, simprocAttr]; rfl)))
    revert hQ
    cases popP s [1] with
    | none => exact fun hQ => by simp (disch := first | omega | (simp only [hN] <;> omega) | fail) only [go_sem, simprocAttr, insC, hr, hfv.1, hfv.2, hg, hrr, i0, Nat.mul_one, Int.toNat_natCast, d1, d2, d3]; exact hQ _ ⟨by first | omega | (simp only [hN]; omega), fun b hb hne => by (try simp only [hN] at hb hne); simp (disch := first | omega | (simp only [hN] <;> omega) | fail) only [go_sem, simprocAttr]⟩
    | some s1 =>
      intro hQ u hu hlo
      simp only [Option.bind_some] at hQ
      simp (disch := first | omega | (simp only [hN] <;> omega) | fail) only [go_sem, simprocAttr, insC, hr, hfv.1, hfv.2, hg, hrr, i0, Nat.mul_one, Int.toNat_natCast, d1, d2, d3]
      refine push_leaf (h0 := h) (v0 := v) hu.1 ⟨by first | omega | (simp only [hN]; omega), fun b hb hne => by (try simp only [hN] at hb hne); simp (disch := first | omega | (simp only [hN] <;> omega) | fail) only [go_sem, simprocAttr]⟩ ?_
      revert hQ
      cases pushP s1 c.places[n] with
      | none => exact fun hQ h' hf => by simp (disch := first | omega | (simp only [hN] <;> omega) | fail) only [go_sem, simprocAttr]; exact hQ _ hf
      | some s' => exact fun hQ h' u hf hu hlo => by simp (disch := first | omega | (simp only [hN] <;> omega) | fail) only [go_sem, simprocAttr]; exact hQ _ _ hf hu hlo
  by_cases e9 : op = 9
  · subst e9
    simp [insB, arrayB, inside] at hx
    obtain ⟨n, rfl⟩ := Int.eq_ofNat_of_zero_le (show 0 ≤ a by omega)
    have hn : n < c.places.length := by omega
    have hgd : c.places.getD n 0 = c.places[n] := by simp [List.getD, hn]
    have hd : doesP c fn ⟨9, n, b, bits, pos⟩ s = popP s [1, c.places[n]] := by simp [doesP, hn]
    rw [hd] at hQ
    obtain ⟨b', o, cp, ex, ver', md, bs, rfl, hb, hg, hrr⟩ := ints_at hC.places.1 hn
    have i0 : ((n : Int) < (c.places.length : Int)) = True := by simp [hn]
    simp (disch := first | omega | (simp only [hN] <;> omega) | fail) only [go_sem, simprocAttr, insC, hr, hfv.1, hfv.2, hg, hrr, i0, Nat.mul_one, Int.toNat_natCast]
    refine pop_leaf (h0 := h) (m := [1, c.places[n]]) (hv.fr ⟨by first | omega | (simp only [hN]; omega), fun b hb hne => by (try simp only [hN] at hb hne); simp (disch := first | omega | (simp only [hN] <;> omega) | fail) only [go_sem, simprocAttr]⟩) (ints_new (ver := 0) (l := [1, c.places[n]]) (by simp) (by simp (disch := first | omega | (simp only [hN] <;> omega) | fail) only [go_sem, simprocAttr]; omega) (by (first | (simp (disch := first | omega | (simp only [hN] <;> omega) | fail) only [go_sem, simprocAttr]; done) | (simp (disch := first | omega | (simp only [hN] <;> omega) | fail) only [go_sem, simprocAttr]; rfl)))) ⟨by first | omega | (simp only [hN]; omega), fun b hb hne => by (try simp only [hN] at hb hne); simp (disch := first | omega | (simp only [hN] <;> omega) | fail) only [go_sem, simprocAttr]⟩ ?_
    revert hQ
    cases popP s [1, c.places[n]] with
    | none => exact fun hQ h' hf => by simp (disch := first | omega | (simp only [hN] <;> omega) | fail) only [go_sem, simprocAttr]; exact hQ _ hf
    | some s' => exact fun hQ h' u hf hu hlo => by simp (disch := first | omega | (simp only [hN] <;> omega) | fail) only [go_sem, simprocAttr]; exact hQ _ _ hf hu hlo
  by_cases e10 : op = 10
  · subst e10
    have hd : doesP c fn ⟨10, a, b, bits, pos⟩ s = (topP s 1).bind fun ts => (popP s ts).bind fun s => (operP ⟨10, a, b, bits, pos⟩ ts).bind fun t => pushP s t := by simp [doesP]
    rw [hd] at hQ
    simp (disch := first | omega | (simp only [hN] <;> omega) | fail) only [go_sem, simprocAttr, insC, hr, hfv.1, hfv.2]
    refine top_spec (n := 1) (hv.fr ⟨by first | omega | (simp only [hN]; omega), fun b hb hne => by (try simp only [hN] at hb hne); simp (disch := first | omega | (simp only [hN] <;> omega) | fail) only [go_sem, simprocAttr]⟩) (by decide) ?_
    cases ht : topP s 1 with
    | none => rw [ht] at hQ; simp (disch := first | omega | (simp only [hN] <;> omega) | fail) only [go_sem, simprocAttr]; exact hQ _ ⟨by first | omega | (simp only [hN]; omega), fun b hb hne => by (try simp only [hN] at hb hne); simp (disch := first | omega | (simp only [hN] <;> omega) | fail) only [go_sem, simprocAttr]⟩
    | some ts =>
      rw [ht] at hQ
      have hts : ts.length = 1 := by
        unfold topP at ht
        split at ht
        · cases ht; rw [List.length_drop]; omega
        · cases ht
      intro u hu
      simp only [Option.bind_some] at hQ
      simp (disch := first | omega | (simp only [hN] <;> omega) | fail) only [go_sem, simprocAttr, insC, hr, hfv.1, hfv.2, hu.flat.1, hu.flat.2]
      refine pop_spec (hv.fr ⟨by first | omega | (simp only [hN]; omega), fun b hb hne => by (try simp only [hN] at hb hne); simp (disch := first | omega | (simp only [hN] <;> omega) | fail) only [go_sem, simprocAttr]⟩) hu ?_
      revert hQ
      cases popP s ts with
      | none => exact fun hQ => by simp (disch := first | omega | (simp only [hN] <;> omega) | fail) only [go_sem, simprocAttr]; exact hQ _ ⟨by first | omega | (simp only [hN]; omega), fun b hb hne => by (try simp only [hN] at hb hne); simp (disch := first | omega | (simp only [hN] <;> omega) | fail) only [go_sem, simprocAttr]⟩
      | some s1 =>
        intro hQ u1 hu1 hlo
        simp only [Option.bind_some] at hQ
        simp (disch := first | omega | (simp only [hN] <;> omega) | fail) only [go_sem, simprocAttr, insC, hr, hfv.1, hfv.2, hu.flat.1, hu.flat.2]
        refine oper_spec (x := ⟨10, a, b, bits, pos⟩) (by simp [hts]) hu ?_
        revert hQ
        cases operP ⟨10, a, b, bits, pos⟩ ts with
        | none =>
          intro hQ h1 hf1
          have hn1 := hf1.n; try simp only [hN] at hn1
          simp (disch := first | omega | (simp only [hN] <;> omega) | fail) only [go_sem, simprocAttr]
          exact hQ _ ⟨by first | omega | (simp only [hN]; omega), fun b hb hne => by (try simp only [hN] at hb hne); simp (disch := first | omega | (simp only [hN] <;> omega) | fail) only [go_sem, simprocAttr, hf1.old]⟩
        | some t =>
          intro hQ h1 hf1
          have hn1 := hf1.n; try simp only [hN] at hn1
          simp only [Option.bind_some] at hQ
          simp (disch := first | omega | (simp only [hN] <;> omega) | fail) only [go_sem, simprocAttr, insC, hr, hfv.1, hfv.2, hu.flat.1, hu.flat.2]
          refine push_leaf (h0 := h) (v0 := v) (hu1.1.fr hf1) ⟨by first | omega | (simp only [hN]; omega), fun b hb hne => by (try simp only [hN] at hb hne); simp (disch := first | omega | (simp only [hN] <;> omega) | fail) only [go_sem, simprocAttr, hf1.old]⟩ ?_
          revert hQ
          cases pushP s1 t with
          | none => exact fun hQ h' hf => by simp (disch := first | omega | (simp only [hN] <;> omega) | fail) only [go_sem, simprocAttr]; exact hQ _ hf
          | some s' => exact fun hQ h' u hf hu hlo => by simp (disch := first | omega | (simp only [hN] <;> omega) | fail) only [go_sem, simprocAttr]; exact hQ _ _ hf hu hlo
  by_cases e11 : op = 11
  · subst e11
    have hd : doesP c fn ⟨11, a, b, bits, pos⟩ s = (topP s 2).bind fun ts => (popP s ts).bind fun s => (operP ⟨11, a, b, bits, pos⟩ ts).bind fun t => pushP s t := by simp [doesP]
    rw [hd] at hQ
    simp (disch := first | omega | (simp only [hN] <;> omega) | fail) only [go_sem, simprocAttr, insC, hr, hfv.1, hfv.2]
    refine top_spec (n := 2) (hv.fr ⟨by first | omega | (simp only [hN]; omega), fun b hb hne => by (try simp only [hN] at hb hne); simp (disch := first | omega | (simp only [hN] <;> omega) | fail) only [go_sem, simprocAttr]⟩) (by decide) ?_
    cases ht : topP s 2 with
    | none => rw [ht] at hQ; simp (disch := first | omega | (simp only [hN] <;> omega) | fail) only [go_sem, simprocAttr]; exact hQ _ ⟨by first | omega | (simp only [hN]; omega), fun b hb hne => by (try simp only [hN] at hb hne); simp (disch := first | omega | (simp only [hN] <;> omega) | fail) only [go_sem, simprocAttr]⟩
    | some ts =>
      rw [ht] at hQ
      have hts : ts.length = 2 := by
        unfold topP at ht
        split at ht
        · cases ht; rw [List.length_drop]; omega
        · cases ht
      intro u hu
      simp only [Option.bind_some] at hQ
      simp (disch := first | omega | (simp only [hN] <;> omega) | fail) only [go_sem, simprocAttr, insC, hr, hfv.1, hfv.2, hu.flat.1, hu.flat.2]
      refine pop_spec (hv.fr ⟨by first | omega | (simp only [hN]; omega), fun b hb hne => by (try simp only [hN] at hb hne); simp (disch := first | omega | (simp only [hN] <;> omega) | fail) only [go_sem, simprocAttr]⟩) hu ?_
      revert hQ
      cases popP s ts with
      | none => exact fun hQ => by simp (disch := first | omega | (simp only [hN] <;> omega) | fail) only [go_sem, simprocAttr]; exact hQ _ ⟨by first | omega | (simp only [hN]; omega), fun b hb hne => by (try simp only [hN] at hb hne); simp (disch := first | omega | (simp only [hN] <;> omega) | fail) only [go_sem, simprocAttr]⟩
      | some s1 =>
        intro hQ u1 hu1 hlo
        simp only [Option.bind_some] at hQ
        simp (disch := first | omega | (simp only [hN] <;> omega) | fail) only [go_sem, simprocAttr, insC, hr, hfv.1, hfv.2, hu.flat.1, hu.flat.2]
        refine oper_spec (x := ⟨11, a, b, bits, pos⟩) (by simp [hts]) hu ?_
        revert hQ
        cases operP ⟨11, a, b, bits, pos⟩ ts with
        | none =>
          intro hQ h1 hf1
          have hn1 := hf1.n; try simp only [hN] at hn1
          simp (disch := first | omega | (simp only [hN] <;> omega) | fail) only [go_sem, simprocAttr]
          exact hQ _ ⟨by first | omega | (simp only [hN]; omega), fun b hb hne => by (try simp only [hN] at hb hne); simp (disch := first | omega | (simp only [hN] <;> omega) | fail) only [go_sem, simprocAttr, hf1.old]⟩
        | some t =>
          intro hQ h1 hf1
          have hn1 := hf1.n; try simp only [hN] at hn1
          simp only [Option.bind_some] at hQ
          simp (disch := first | omega | (simp only [hN] <;> omega) | fail) only [go_sem, simprocAttr, insC, hr, hfv.1, hfv.2, hu.flat.1, hu.flat.2]
          refine push_leaf (h0 := h) (v0 := v) (hu1.1.fr hf1) ⟨by first | omega | (simp only [hN]; omega), fun b hb hne => by (try simp only [hN] at hb hne); simp (disch := first | omega | (simp only [hN] <;> omega) | fail) only [go_sem, simprocAttr, hf1.old]⟩ ?_
          revert hQ
          cases pushP s1 t with
          | none => exact fun hQ h' hf => by simp (disch := first | omega | (simp only [hN] <;> omega) | fail) only [go_sem, simprocAttr]; exact hQ _ hf
          | some s' => exact fun hQ h' u hf hu hlo => by simp (disch := first | omega | (simp only [hN] <;> omega) | fail) only [go_sem, simprocAttr]; exact hQ _ _ hf hu hlo
  by_cases e17 : op = 17
  · subst e17
    simp [insB, inside] at hx
    obtain ⟨n, rfl⟩ := Int.eq_ofNat_of_zero_le (show 0 ≤ a by omega)
    have hn : n < c.chans.length := by omega
    have hgd : c.chans.getD n (0, 0) = c.chans[n] := by simp [List.getD, hn]
    have hd : doesP c fn ⟨17, n, b, bits, pos⟩ s = popP s [c.chans[n].1] := by simp [doesP, hn]
    rw [hd] at hQ
    obtain ⟨b', o, cp, ex, ver', md, bs, rfl, hb, hg, hrw⟩ := hC.chans.inv (by omega)
    have hrr : bs[o + n * 2]? = some (.int .i64 c.chans[n].1) := by
      rw [row_get hrw (by omega)]
      exact flat_get (k := 2) (j := 0) (fun _ => rfl) (List.getElem?_eq_getElem hn) (by decide)
    have i0 : ((n : Int) < (c.chans.length : Int)) = True := by simp [hn]
    simp (disch := first | omega | (simp only [hN] <;> omega) | fail) only [go_sem, simprocAttr, insC, hr, hfv.1, hfv.2, hg, hrr, i0, Nat.add_zero, Int.toNat_natCast]
    refine pop_leaf (h0 := h) (m := [c.chans[n].1]) (hv.fr ⟨by first | omega | (simp only [hN]; omega), fun b hb hne => by (try simp only [hN] at hb hne); simp (disch := first | omega | (simp only [hN] <;> omega) | fail) only [go_sem, simprocAttr]⟩) (ints_new (ver := 0) (l := [c.chans[n].1]) (by simp) (by simp (disch := first | omega | (simp only [hN] <;> omega) | fail) only [go_sem, simprocAttr]; omega) (by (first | (simp (disch := first | omega | (simp only [hN] <;> omega) | fail) only [go_sem, simprocAttr]; done) | (simp (disch := first | omega | (simp only [hN] <;> omega) | fail) only [go_sem, simprocAttr]; rfl)))) ⟨by first | omega | (simp only [hN]; omega), fun b hb hne => by (try simp only [hN] at hb hne); simp (disch := first | omega | (simp only [hN] <;> omega) | fail) only [go_sem, simprocAttr]⟩ ?_
    revert hQ
    cases popP s [c.chans[n].1] with
    | none => exact fun hQ h' hf => by simp (disch := first | omega | (simp only [hN] <;> omega) | fail) only [go_sem, simprocAttr]; exact hQ _ hf
    | some s' => exact fun hQ h' u hf hu hlo => by simp (disch := first | omega | (simp only [hN] <;> omega) | fail) only [go_sem, simprocAttr]; exact hQ _ _ hf hu hlo
  by_cases e18 : op = 18
  · subst e18
    simp [insB, inside] at hx
    obtain ⟨n, rfl⟩ := Int.eq_ofNat_of_zero_le (show 0 ≤ a by omega)
    have hn : n < c.chans.length := by omega
    have hgd : c.chans.getD n (0, 0) = c.chans[n] := by simp [List.getD, hn]
    have hd : doesP c fn ⟨18, n, b, bits, pos⟩ s = pushP s c.chans[n].1 := by simp [doesP, hn]
    rw [hd] at hQ
    obtain ⟨b', o, cp, ex, ver', md, bs, rfl, hb, hg, hrw⟩ := hC.chans.inv (by omega)
    have hrr : bs[o + n * 2]? = some (.int .i64 c.chans[n].1) := by
      rw [row_get hrw (by omega)]
      exact flat_get (k := 2) (j := 0) (fun _ => rfl) (List.getElem?_eq_getElem hn) (by decide)
    have i0 : ((n : Int) < (c.chans.length : Int)) = True := by simp [hn]
    simp (disch := first | omega | (simp only [hN] <;> omega) | fail) only [go_sem, simprocAttr, insC, hr, hfv.1, hfv.2, hg, hrr, i0, Nat.add_zero, Int.toNat_natCast]
    refine push_leaf (h0 := h) (v0 := v) (hv.1.fr ⟨by first | omega | (simp only [hN]; omega), fun b hb hne => by (try simp only [hN] at hb hne); simp (disch := first | omega | (simp only [hN] <;> omega) | fail) only [go_sem, simprocAttr]⟩) ⟨by first | omega | (simp only [hN]; omega), fun b hb hne => by (try simp only [hN] at hb hne); simp (disch := first | omega | (simp only [hN] <;> omega) | fail) only [go_sem, simprocAttr]⟩ ?_
    revert hQ
    cases pushP s c.chans[n].1 with
    | none => exact fun hQ h' hf => by simp (disch := first | omega | (simp only [hN] <;> omega) | fail) only [go_sem, simprocAttr]; exact hQ _ hf
    | some s' => exact fun hQ h' u hf hu hlo => by simp (disch := first | omega | (simp only [hN] <;> omega) | fail) only [go_sem, simprocAttr]; exact hQ _ _ hf hu hlo
  by_cases e19 : op = 19
  · subst e19
    have hd : doesP c fn ⟨19, a, b, bits, pos⟩ s = pushP s 1 := by simp [doesP]
    rw [hd] at hQ
    simp (disch := first | omega | (simp only [hN] <;> omega) | fail) only [go_sem, simprocAttr, insC, hr, hfv.1, hfv.2]
    refine push_leaf (h0 := h) (v0 := v) (hv.1.fr ⟨by first | omega | (simp only [hN]; omega), fun b hb hne => by (try simp only [hN] at hb hne); simp (disch := first | omega | (simp only [hN] <;> omega) | fail) only [go_sem, simprocAttr]⟩) ⟨by first | omega | (simp only [hN]; omega), fun b hb hne => by (try simp only [hN] at hb hne); simp (disch := first | omega | (simp only [hN] <;> omega) | fail) only [go_sem, simprocAttr]⟩ ?_
    revert hQ
    cases pushP s 1 with
    | none => exact fun hQ h' hf => by simp (disch := first | omega | (simp only [hN] <;> omega) | fail) only [go_sem, simprocAttr]; exact hQ _ hf
    | some s' => exact fun hQ h' u hf hu hlo => by simp (disch := first | omega | (simp only [hN] <;> omega) | fail) only [go_sem, simprocAttr]; exact hQ _ _ hf hu hlo
  by_cases e20 : op = 20
  · subst e20
    have hd : doesP c fn ⟨20, a, b, bits, pos⟩ s = popP s [1] := by simp [doesP]
    rw [hd] at hQ
    simp (disch := first | omega | (simp only [hN] <;> omega) | fail) only [go_sem, simprocAttr, insC, hr, hfv.1, hfv.2]
    refine pop_leaf (h0 := h) (m := [1]) (hv.fr ⟨by first | omega | (simp only [hN]; omega), fun b hb hne => by (try simp only [hN] at hb hne); simp (disch := first | omega | (simp only [hN] <;> omega) | fail) only [go_sem, simprocAttr]⟩) (ints_new (ver := 0) (l := [1]) (by simp) (by simp (disch := first | omega | (simp only [hN] <;> omega) | fail) only [go_sem, simprocAttr]; omega) (by (first | (simp (disch := first | omega | (simp only [hN] <;> omega) | fail) only [go_sem, simprocAttr]; done) | (simp (disch := first | omega | (simp only [hN] <;> omega) | fail) only [go_sem, simprocAttr]; rfl)))) ⟨by first | omega | (simp only [hN]; omega), fun b hb hne => by (try simp only [hN] at hb hne); simp (disch := first | omega | (simp only [hN] <;> omega) | fail) only [go_sem, simprocAttr]⟩ ?_
    revert hQ
    cases popP s [1] with
    | none => exact fun hQ h' hf => by simp (disch := first | omega | (simp only [hN] <;> omega) | fail) only [go_sem, simprocAttr]; exact hQ _ hf
    | some s' => exact fun hQ h' u hf hu hlo => by simp (disch := first | omega | (simp only [hN] <;> omega) | fail) only [go_sem, simprocAttr]; exact hQ _ _ hf hu hlo
  by_cases e21 : op = 21
  · subst e21
    have hd : doesP c fn ⟨21, a, b, bits, pos⟩ s = popP s [1] := by simp [doesP]
    rw [hd] at hQ
    simp (disch := first | omega | (simp only [hN] <;> omega) | fail) only [go_sem, simprocAttr, insC, hr, hfv.1, hfv.2]
    refine pop_leaf (h0 := h) (m := [1]) (hv.fr ⟨by first | omega | (simp only [hN]; omega), fun b hb hne => by (try simp only [hN] at hb hne); simp (disch := first | omega | (simp only [hN] <;> omega) | fail) only [go_sem, simprocAttr]⟩) (ints_new (ver := 0) (l := [1]) (by simp) (by simp (disch := first | omega | (simp only [hN] <;> omega) | fail) only [go_sem, simprocAttr]; omega) (by (first | (simp (disch := first | omega | (simp only [hN] <;> omega) | fail) only [go_sem, simprocAttr]; done) | (simp (disch := first | omega | (simp only [hN] <;> omega) | fail) only [go_sem, simprocAttr]; rfl)))) ⟨by first | omega | (simp only [hN]; omega), fun b hb hne => by (try simp only [hN] at hb hne); simp (disch := first | omega | (simp only [hN] <;> omega) | fail) only [go_sem, simprocAttr]⟩ ?_
    revert hQ
    cases popP s [1] with
    | none => exact fun hQ h' hf => by simp (disch := first | omega | (simp only [hN] <;> omega) | fail) only [go_sem, simprocAttr]; exact hQ _ hf
    | some s' => exact fun hQ h' u hf hu hlo => by simp (disch := first | omega | (simp only [hN] <;> omega) | fail) only [go_sem, simprocAttr]; exact hQ _ _ hf hu hlo
  by_cases e26 : op = 26
  · subst e26
    have hd : doesP c fn ⟨26, a, b, bits, pos⟩ s = popP s [1] := by simp [doesP]
    rw [hd] at hQ
    simp (disch := first | omega | (simp only [hN] <;> omega) | fail) only [go_sem, simprocAttr, insC, hr, hfv.1, hfv.2]
    refine pop_leaf (h0 := h) (m := [1]) (hv.fr ⟨by first | omega | (simp only [hN]; omega), fun b hb hne => by (try simp only [hN] at hb hne); simp (disch := first | omega | (simp only [hN] <;> omega) | fail) only [go_sem, simprocAttr]⟩) (ints_new (ver := 0) (l := [1]) (by simp) (by simp (disch := first | omega | (simp only [hN] <;> omega) | fail) only [go_sem, simprocAttr]; omega) (by (first | (simp (disch := first | omega | (simp only [hN] <;> omega) | fail) only [go_sem, simprocAttr]; done) | (simp (disch := first | omega | (simp only [hN] <;> omega) | fail) only [go_sem, simprocAttr]; rfl)))) ⟨by first | omega | (simp only [hN]; omega), fun b hb hne => by (try simp only [hN] at hb hne); simp (disch := first | omega | (simp only [hN] <;> omega) | fail) only [go_sem, simprocAttr]⟩ ?_
    revert hQ
    cases popP s [1] with
    | none => exact fun hQ h' hf => by simp (disch := first | omega | (simp only [hN] <;> omega) | fail) only [go_sem, simprocAttr]; exact hQ _ hf
    | some s' => exact fun hQ h' u hf hu hlo => by simp (disch := first | omega | (simp only [hN] <;> omega) | fail) only [go_sem, simprocAttr]; exact hQ _ _ hf hu hlo
  by_cases e22 : op = 22
  · subst e22
    simp [insB, inside] at hx
    obtain ⟨n, rfl⟩ := Int.eq_ofNat_of_zero_le (show 0 ≤ a by omega)
    have hn : n < c.funcs.length := by omega
    have hgd : c.funcs.getD n ⟨0, 0, []⟩ = c.funcs[n] := by simp [List.getD, hn]
    have hd : doesP c fn ⟨22, n, b, bits, pos⟩ s = popP s (c.funcs[n].locals.take c.funcs[n].params.toNat) := by simp [doesP, hn]
    rw [hd] at hQ
    obtain ⟨css, hE, hfs⟩ := hC.funcs
    obtain ⟨b', o, cp, ex, ver', md, bs, rfl, hb, hg, hrw⟩ := hfs.inv (by omega)
    obtain ⟨lv', hrow, hlv⟩ := hE.at hn
    rw [← row_sub hrw (by omega)] at hrow
    simp only [enC] at hrow
    obtain ⟨q1, q2⟩ := hF _ (List.getElem_mem hn)
    obtain ⟨p, hp⟩ := Int.eq_ofNat_of_zero_le q1
    rw [hp] at q2 hrow hQ
    rw [Int.toNat_natCast] at hQ
    have hfl' := hlv.1.flat
    have i0 : ((n : Int) < (c.funcs.length : Int)) = True := by simp [hn]
    generalize c.funcs[n].locals = L at *
    have hml : (L.take p).length = p := by rw [List.length_take]; omega
    have d1 : decide (r = h.n + 1) = false := decide_eq_false (by omega)
    have d2 : decide (h.n = h.n + 1) = false := decide_eq_false (by omega)
    have d3 : decide (b' = h.n + 1) = false := decide_eq_false (by omega)
    rcases hlv.cases with ⟨rfl, h0⟩ | ⟨b2, o2, c2, rfl, hc⟩ | ⟨b2, o2, c2, ver2, md2, bs2, rfl, hc, hc0, hb2, hg2⟩
    · obtain rfl : p = 0 := by omega
      simp (disch := first | omega | (simp only [hN] <;> omega) | fail) only [go_sem, simprocAttr, insC, hr, hfv.1, hfv.2, hg, hrow, i0, Int.toNat_natCast, hfl'.1, hfl'.2, bnd00, Int.natCast_zero, d1, d2, d3]
      rw [List.take_zero] at hQ
      refine pop_leaf (h0 := h) (m := []) (hv.fr ⟨by first | omega | (simp only [hN]; omega), fun b hb hne => by (try simp only [hN] at hb hne); simp (disch := first | omega | (simp only [hN] <;> omega) | fail) only [go_sem, simprocAttr]⟩) .nil ⟨by first | omega | (simp only [hN]; omega), fun b hb hne => by (try simp only [hN] at hb hne); simp (disch := first | omega | (simp only [hN] <;> omega) | fail) only [go_sem, simprocAttr]⟩ ?_
      revert hQ
      cases popP s [] with
      | none => exact fun hQ h' hf => by simp (disch := first | omega | (simp only [hN] <;> omega) | fail) only [go_sem, simprocAttr]; exact hQ _ hf
      | some s' => exact fun hQ h' u hf hu hlo => by simp (disch := first | omega | (simp only [hN] <;> omega) | fail) only [go_sem, simprocAttr]; exact hQ _ _ hf hu hlo
    · simp (disch := first | omega | (simp only [hN] <;> omega) | fail) only [go_sem, simprocAttr, insC, hr, hfv.1, hfv.2, hg, hrow, i0, Int.toNat_natCast, hfl'.1, hfl'.2, bnd_num, Nat.zero_mul, Nat.add_zero, Nat.sub_zero, Bool.cond_self, d1, d2, d3]
      have hw := (ints_pre hlv p (by omega)).1
      refine pop_leaf (h0 := h) (m := L.take p) (hv.fr ⟨by first | omega | (simp only [hN]; omega), fun b hb hne => by (try simp only [hN] at hb hne); simp (disch := first | omega | (simp only [hN] <;> omega) | fail) only [go_sem, simprocAttr]⟩) (hw.fr ⟨by first | omega | (simp only [hN]; omega), fun b hb hne => by (try simp only [hN] at hb hne); simp (disch := first | omega | (simp only [hN] <;> omega) | fail) only [go_sem, simprocAttr]⟩) ⟨by first | omega | (simp only [hN]; omega), fun b hb hne => by (try simp only [hN] at hb hne); simp (disch := first | omega | (simp only [hN] <;> omega) | fail) only [go_sem, simprocAttr]⟩ ?_
      revert hQ
      cases popP s (L.take p) with
      | none => exact fun hQ h' hf => by simp (disch := first | omega | (simp only [hN] <;> omega) | fail) only [go_sem, simprocAttr]; exact hQ _ hf
      | some s' => exact fun hQ h' u hf hu hlo => by simp (disch := first | omega | (simp only [hN] <;> omega) | fail) only [go_sem, simprocAttr]; exact hQ _ _ hf hu hlo
    · simp (disch := first | omega | (simp only [hN] <;> omega) | fail) only [go_sem, simprocAttr, insC, hr, hfv.1, hfv.2, hg, hrow, i0, Int.toNat_natCast, hfl'.1, hfl'.2, bnd_num, Nat.zero_mul, Nat.add_zero, Nat.sub_zero, Bool.cond_self, hg2, decide_eq_false (show ¬ c2 = 0 by omega), Option.isSome_none, Bool.and_false, cond_false, d1, d2, d3]
      have hw := (ints_pre hlv p (by omega)).1
      refine pop_leaf (h0 := h) (m := L.take p) (hv.fr ⟨by first | omega | (simp only [hN]; omega), fun b hb hne => by (try simp only [hN] at hb hne); simp (disch := first | omega | (simp only [hN] <;> omega) | fail) only [go_sem, simprocAttr]⟩) (hw.fr ⟨by first | omega | (simp only [hN]; omega), fun b hb hne => by (try simp only [hN] at hb hne); simp (disch := first | omega | (simp only [hN] <;> omega) | fail) only [go_sem, simprocAttr]⟩) ⟨by first | omega | (simp only [hN]; omega), fun b hb hne => by (try simp only [hN] at hb hne); simp (disch := first | omega | (simp only [hN] <;> omega) | fail) only [go_sem, simprocAttr]⟩ ?_
      revert hQ
      cases popP s (L.take p) with
      | none => exact fun hQ h' hf => by simp (disch := first | omega | (simp only [hN] <;> omega) | fail) only [go_sem, simprocAttr]; exact hQ _ hf
      | some s' => exact fun hQ h' u hf hu hlo => by simp (disch := first | omega | (simp only [hN] <;> omega) | fail) only [go_sem, simprocAttr]; exact hQ _ _ hf hu hlo
  by_cases e23 : op = 23
  · subst e23
    simp [insB, inside] at hx
    obtain ⟨n, rfl⟩ := Int.eq_ofNat_of_zero_le (show 0 ≤ a by omega)
    have hn : n < c.funcs.length := by omega
    have hgd : c.funcs.getD n ⟨0, 0, []⟩ = c.funcs[n] := by simp [List.getD, hn]
    have hd : doesP c fn ⟨23, n, b, bits, pos⟩ s = popP s (c.funcs[n].locals.take c.funcs[n].params.toNat) := by simp [doesP, hn]
    rw [hd] at hQ
    obtain ⟨css, hE, hfs⟩ := hC.funcs
    obtain ⟨b', o, cp, ex, ver', md, bs, rfl, hb, hg, hrw⟩ := hfs.inv (by omega)
    obtain ⟨lv', hrow, hlv⟩ := hE.at hn
    rw [← row_sub hrw (by omega)] at hrow
    simp only [enC] at hrow
    obtain ⟨q1, q2⟩ := hF _ (List.getElem_mem hn)
    obtain ⟨p, hp⟩ := Int.eq_ofNat_of_zero_le q1
    rw [hp] at q2 hrow hQ
    rw [Int.toNat_natCast] at hQ
    have hfl' := hlv.1.flat
    have i0 : ((n : Int) < (c.funcs.length : Int)) = True := by simp [hn]
    generalize c.funcs[n].locals = L at *
    have hml : (L.take p).length = p := by rw [List.length_take]; omega
    have d1 : decide (r = h.n + 1) = false := decide_eq_false (by omega)
    have d2 : decide (h.n = h.n + 1) = false := decide_eq_false (by omega)
    have d3 : decide (b' = h.n + 1) = false := decide_eq_false (by omega)
    rcases hlv.cases with ⟨rfl, h0⟩ | ⟨b2, o2, c2, rfl, hc⟩ | ⟨b2, o2, c2, ver2, md2, bs2, rfl, hc, hc0, hb2, hg2⟩
    · obtain rfl : p = 0 := by omega
      simp (disch := first | omega | (simp only [hN] <;> omega) | fail) only [go_sem, simprocAttr, insC, hr, hfv.1, hfv.2, hg, hrow, i0, Int.toNat_natCast, hfl'.1, hfl'.2, bnd00, Int.natCast_zero, d1, d2, d3]
      rw [List.take_zero] at hQ
      refine pop_leaf (h0 := h) (m := []) (hv.fr ⟨by first | omega | (simp only [hN]; omega), fun b hb hne => by (try simp only [hN] at hb hne); simp (disch := first | omega | (simp only [hN] <;> omega) | fail) only [go_sem, simprocAttr]⟩) .nil ⟨by first | omega | (simp only [hN]; omega), fun b hb hne => by (try simp only [hN] at hb hne); simp (disch := first | omega | (simp only [hN] <;> omega) | fail) only [go_sem, simprocAttr]⟩ ?_
      revert hQ
      cases popP s [] with
      | none => exact fun hQ h' hf => by simp (disch := first | omega | (simp only [hN] <;> omega) | fail) only [go_sem, simprocAttr]; exact hQ _ hf
      | some s' => exact fun hQ h' u hf hu hlo => by simp (disch := first | omega | (simp only [hN] <;> omega) | fail) only [go_sem, simprocAttr]; exact hQ _ _ hf hu hlo
    · simp (disch := first | omega | (simp only [hN] <;> omega) | fail) only [go_sem, simprocAttr, insC, hr, hfv.1, hfv.2, hg, hrow, i0, Int.toNat_natCast, hfl'.1, hfl'.2, bnd_num, Nat.zero_mul, Nat.add_zero, Nat.sub_zero, Bool.cond_self, d1, d2, d3]
      have hw := (ints_pre hlv p (by omega)).1
      refine pop_leaf (h0 := h) (m := L.take p) (hv.fr ⟨by first | omega | (simp only [hN]; omega), fun b hb hne => by (try simp only [hN] at hb hne); simp (disch := first | omega | (simp only [hN] <;> omega) | fail) only [go_sem, simprocAttr]⟩) (hw.fr ⟨by first | omega | (simp only [hN]; omega), fun b hb hne => by (try simp only [hN] at hb hne); simp (disch := first | omega | (simp only [hN] <;> omega) | fail) only [go_sem, simprocAttr]⟩) ⟨by first | omega | (simp only [hN]; omega), fun b hb hne => by (try simp only [hN] at hb hne); simp (disch := first | omega | (simp only [hN] <;> omega) | fail) only [go_sem, simprocAttr]⟩ ?_
      revert hQ
      cases popP s (L.take p) with
      | none => exact fun hQ h' hf => by simp (disch := first | omega | (simp only [hN] <;> omega) | fail) only [go_sem, simprocAttr]; exact hQ _ hf
      | some s' => exact fun hQ h' u hf hu hlo => by simp (disch := first | omega | (simp only [hN] <;> omega) | fail) only [go_sem, simprocAttr]; exact hQ _ _ hf hu hlo
    · simp (disch := first | omega | (simp only [hN] <;> omega) | fail) only [go_sem, simprocAttr, insC, hr, hfv.1, hfv.2, hg, hrow, i0, Int.toNat_natCast, hfl'.1, hfl'.2, bnd_num, Nat.zero_mul, Nat.add_zero, Nat.sub_zero, Bool.cond_self, hg2, decide_eq_false (show ¬ c2 = 0 by omega), Option.isSome_none, Bool.and_false, cond_false, d1, d2, d3]
      have hw := (ints_pre hlv p (by omega)).1
      refine pop_leaf (h0 := h) (m := L.take p) (hv.fr ⟨by first | omega | (simp only [hN]; omega), fun b hb hne => by (try simp only [hN] at hb hne); simp (disch := first | omega | (simp only [hN] <;> omega) | fail) only [go_sem, simprocAttr]⟩) (hw.fr ⟨by first | omega | (simp only [hN]; omega), fun b hb hne => by (try simp only [hN] at hb hne); simp (disch := first | omega | (simp only [hN] <;> omega) | fail) only [go_sem, simprocAttr]⟩) ⟨by first | omega | (simp only [hN]; omega), fun b hb hne => by (try simp only [hN] at hb hne); simp (disch := first | omega | (simp only [hN] <;> omega) | fail) only [go_sem, simprocAttr]⟩ ?_
      revert hQ
      cases popP s (L.take p) with
      | none => exact fun hQ h' hf => by simp (disch := first | omega | (simp only [hN] <;> omega) | fail) only [go_sem, simprocAttr]; exact hQ _ hf
      | some s' => exact fun hQ h' u hf hu hlo => by simp (disch := first | omega | (simp only [hN] <;> omega) | fail) only [go_sem, simprocAttr]; exact hQ _ _ hf hu hlo
  by_cases e25 : op = 25
  · subst e25
    have hd : doesP c fn ⟨25, a, b, bits, pos⟩ s = if s = [] then some s else none := by simp [doesP]
    rw [hd] at hQ
    simp (disch := first | omega | (simp only [hN] <;> omega) | fail) only [go_sem, simprocAttr, insC, hr, hfv.1, hfv.2, hlen]
    refine need_spec ?_
    by_cases h0 : s = []
    · rw [if_pos h0] at hQ
      rw [if_pos (by simp [h0])]
      simp (disch := first | omega | (simp only [hN] <;> omega) | fail) only [go_sem, simprocAttr]
      exact hQ _ _ ⟨by first | omega | (simp only [hN]; omega), fun b hb hne => by (try simp only [hN] at hb hne); simp (disch := first | omega | (simp only [hN] <;> omega) | fail) only [go_sem, simprocAttr]⟩ (hv.fr ⟨by first | omega | (simp only [hN]; omega), fun b hb hne => by (try simp only [hN] at hb hne); simp (disch := first | omega | (simp only [hN] <;> omega) | fail) only [go_sem, simprocAttr]⟩) fun _ _ h => h
    · rw [if_neg h0] at hQ
      rw [if_neg (by simp [h0])]
      simp (disch := first | omega | (simp only [hN] <;> omega) | fail) only [go_sem, simprocAttr]
      exact hQ _ ⟨by first | omega | (simp only [hN]; omega), fun b hb hne => by (try simp only [hN] at hb hne); simp (disch := first | omega | (simp only [hN] <;> omega) | fail) only [go_sem, simprocAttr]⟩
  have hd : doesP c fn ⟨op, a, b, bits, pos⟩ s = some s := by simp [doesP, e1, e2, e3, e4, e5, e6, e7, e8, e9, e10, e11, e17, e18, e19, e20, e21, e26, e22, e23, e25]
  rw [hd] at hQ
  have g1 : (op == 1) = false := by simp [e1] 
  have g2 : (op == 2) = false := by simp [e2] 
  have g3 : (op == 3) = false := by simp [e3] 
  have g4 : (op == 4) = false := by simp [e4] 
  have g5 : (op == 5) = false := by simp [e5] 
  have g6 : (op == 6) = false := by simp [e6] 
  have g7 : (op == 7) = false := by simp [e7] 
  have g8 : (op == 8) = false := by simp [e8] 
  have g9 : (op == 9) = false := by simp [e9] 
  have g10 : (op == 10) = false := by simp [e10] 
  have g11 : (op == 11) = false := by simp [e11] 
  have g17 : (op == 17) = false := by simp [e17] 
  have g18 : (op == 18) = false := by simp [e18] 
  have g19 : (op == 19) = false := by simp [e19] 
  have g20 : (op == 20) = false := by simp [e20] 
  have g21 : (op == 21) = false := by simp [e21] 
  have g26 : (op == 26) = false := by simp [e26] 
  have g22 : (op == 22) = false := by simp [e22] 
  have g23 : (op == 23) = false := by simp [e23] 
  have g25 : (op == 25) = false := by simp [e25]
  simp (disch := first | omega | (simp only [hN] <;> omega) | fail) only [go_sem, simprocAttr, insC, hr, hfv.1, hfv.2, g1, g2, g3, g4, g5, g6, g7, g8, g9, g10, g11, g17, g18, g19, g20, g21, g26, g22, g23, g25]
  exact hQ _ _ ⟨by first | omega | (simp only [hN]; omega), fun b hb hne => by (try simp only [hN] at hb hne); simp (disch := first | omega | (simp only [hN] <;> omega) | fail) only [go_sem, simprocAttr]⟩ (hv.fr ⟨by first | omega | (simp only [hN]; omega), fun b hb hne => by (try simp only [hN] at hb hne); simp (disch := first | omega | (simp only [hN] <;> omega) | fail) only [go_sem, simprocAttr]⟩) fun _ _ h => h
end Go.Ev
