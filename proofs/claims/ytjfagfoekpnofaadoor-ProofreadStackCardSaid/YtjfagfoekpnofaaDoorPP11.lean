/- Proofread: a code is asked. -/
import Derived.Test.YtjfagfoekpnofaaDoorPP9
import Derived.Test.YtjfagfoekpnofaaDoorPP5
import Derived.Test.YtjfagfoekpnofaaDoorPuA
set_option linter.all false
set_option linter.unusedVariables false
set_option linter.unusedSimpArgs false
namespace Go.Ev
open Go
set_option maxRecDepth 100000
set_option maxHeartbeats 4000000

/-- A function that asks an instruction. -/
def CallI (h : AHeap) (g : Nat) (cap : List AV) (p : Ins → Bool) : Prop := ∀ (h' : AHeap) (x : Ins) (Q : QR), Fr h.n h h' → (∀ h'', Fr h'.n h' h'' → Q (.ret (.bool (p x))) h'') → WF F g (.agg (insC x) :: cap) h' Q
theorem indexIns {h : AHeap} {l : List Ins} {v : AV} {g : Nat} {cap : List AV} {p : Ins → Bool} (hv : SlV h 5 l.length (l.flatMap insC) v) (hp : CallI h g cap p) {Q : QR} (hQ : ∀ h' (i : Int), Fr h.n h h' → decide (i ≥ 0) = l.any p → Q (.ret (.int .i64 i)) h') : WF F 36 [v, .func (.func g) [] cap] h Q := by
  refine WF.code F36 rfl ?_
  have h1 := hv.small
  simp (disch := first | omega | (simp only [hN] <;> omega) | fail) only [go_sem, simprocAttr, hv.len, hv.flat.1, hv.flat.2]
  refine wp_loop (fun n a h' => ∃ i : Nat, n = l.length - i ∧ i ≤ l.length ∧ Fr h.n h h' ∧ (l.take i).any p = false ∧ a.tm.get 0 = some v ∧ a.tm.get 1 = some (.func (.func g) [] cap) ∧ a.tm.get 7 = some (.int .i64 (l.length : Int)) ∧ a.tm.get 8 = some (.int .i64 (i : Int)) ∧ a.df = []) ?_ l.length ?_
  · rintro n ⟨t, df⟩ h' ⟨i, hn, hi, hf, ht, k0, k1, k7, k8, hdf⟩
    simp only at k0 k1 k7 k8 hdf
    subst hdf
    have hn' := hf.n; try simp only [hN] at hn'
    simp (disch := first | omega | (simp only [hN] <;> omega) | fail) only [go_sem, simprocAttr, k0, k1, k7, k8]
    (first | refine kA (fun hlt => ?_) (fun hlt => ?_) | refine kB (fun hlt => ?_) (fun hlt => ?_) | refine kC (fun hlt => ?_) (fun hlt => ?_) | refine kD (fun hlt => ?_) (fun hlt => ?_) | refine kE (fun hlt => ?_) (fun hlt => ?_) | refine kF (fun hlt => ?_) (fun hlt => ?_))
    · have hil : i < l.length := (by have := of_decide_eq_true hlt; omega)
      obtain ⟨b, o, c, ex, ver, md, bs, rfl, hb, hg, hrw⟩ := hv.inv (by omega)
      have hrow : row bs (o + i * 5) 5 = some (insC l[i]) := by
        rw [row_sub hrw (by omega)]
        exact flat_row (f := insC) (fun _ => rfl) (List.getElem?_eq_getElem hil)
      have hg1 := (hf.all hb).trans hg
      have i1 : ((i : Int) < (l.length : Int)) = True := by simp [hil]
      have iN : ((i : Int) + 1) = ((i + 1 : Nat) : Int) := by omega
      simp (disch := first | omega | (simp only [hN] <;> omega) | fail) only [go_sem, simprocAttr, k0, k1, k7, k8, Int.toNat_natCast, hg1, hrow, i1]
      refine hp h' _ _ hf ?_
      intro h2 hf2
      have hn2 := hf2.n; try simp only [hN] at hn2
      cases hpi : p l[i]
      · simp (disch := first | omega | (simp only [hN] <;> omega) | fail) only [go_sem, simprocAttr, k0, k1, k7, k8, iN]
        refine ⟨l.length - (i + 1), by omega, i + 1, rfl, hil, ?_, any_take hil ht hpi, ?_⟩
        · exact ⟨by first | omega | (simp only [hN]; omega), fun b hb hne => by (try simp only [hN] at hb hne); simp (disch := first | omega | (simp only [hN] <;> omega) | fail) only [go_sem, simprocAttr, hf2.old, hf.old]⟩
        · simp (disch := first | omega | (simp only [hN] <;> omega) | fail) only [go_sem, simprocAttr]
      · simp (disch := first | omega | (simp only [hN] <;> omega) | fail) only [go_sem, simprocAttr, k0, k1]
        exact hQ _ _ ⟨by first | omega | (simp only [hN]; omega), fun b hb hne => by (try simp only [hN] at hb hne); simp (disch := first | omega | (simp only [hN] <;> omega) | fail) only [go_sem, simprocAttr, hf2.old, hf.old]⟩ (by rw [any_at hil hpi]; exact decide_eq_true (by omega))
    · have hil : i = l.length := by have := of_decide_eq_false hlt; omega
      simp (disch := first | omega | (simp only [hN] <;> omega) | fail) only [go_sem, simprocAttr, k0, k1]
      subst hil
      rw [List.take_length] at ht
      exact hQ _ _ hf (by rw [ht]; rfl)
  · simp (disch := first | omega | (simp only [hN] <;> omega) | fail) only [go_sem, simprocAttr, hv.len]
    exact ⟨0, rfl, Nat.zero_le _, Fr.refl _ _, rfl, rfl⟩
theorem containsIns {h : AHeap} {l : List Ins} {v : AV} {g : Nat} {cap : List AV} {p : Ins → Bool} (hv : SlV h 5 l.length (l.flatMap insC) v) (hp : CallI h g cap p) {Q : QR} (hQ : ∀ h', Fr h.n h h' → Q (.ret (.bool (l.any p))) h') : WF F 24 [v, .func (.func g) [] cap] h Q := by
  refine WF.code F24 rfl ?_
  simp (disch := first | omega | (simp only [hN] <;> omega) | fail) only [go_sem, simprocAttr, hv.flat.1, hv.flat.2]
  refine indexIns hv hp ?_
  intro h' i hf hi
  simp (disch := first | omega | (simp only [hN] <;> omega) | fail) only [go_sem, simprocAttr, hi]
  exact hQ _ hf
theorem check_spec {h : AHeap} {c : Cd} {pv chv fv bv : AV} (hG : GH h) (hC : CdV h c pv chv fv bv) {Q : QR} (hQ : ∀ h', Fr h.n h h' → Q (.ret (if formB c then .nilIface else errAV 9)) h') : WF F 15 [.agg (cdC c pv chv fv bv)] h Q := by
  refine WF.code F15 rfl ?_
  obtain ⟨f1, f2, f3, f4⟩ := hC.flats
  have hGn := hG.n
  simp (disch := first | omega | (simp only [hN] <;> omega) | fail) only [go_sem, simprocAttr, cdC, f1.1, f1.2, f2.1, f2.2, f3.1, f3.2, f4.1, f4.2]
  have hF0 : Fr h.n h (h.alloc (.cells .own 0 (cdC c pv chv fv bv))) := (Fr.refl _ _).alloc _
  have hG1 := hG.alloc (.cells .own 0 (cdC c pv chv fv bv))
  simp only [cdC] at hF0 hG1
  generalize hHH : AHeap.alloc h _ = H at hF0 hG1 ⊢
  have hHn : H.n = h.n + 1 := by rw [← hHH]; simp (disch := first | omega | (simp only [hN] <;> omega) | fail) only [go_sem, simprocAttr]
  have b0 : H.get h.n = some ⟨0, .cells .own 0 (cdC c pv chv fv bv)⟩ := by rw [← hHH]; simp (disch := first | omega | (simp only [hN] <;> omega) | fail) only [go_sem, simprocAttr, cdC]
  clear hHH
  replace hC := hC.fr hF0
  refine shape_spec hC ?_
  intro h1 hf1
  have hn1 := hf1.n; try simp only [hN] at hn1
  have b1 := (hf1.all (b := h.n) (by omega)).trans b0
  have g1 := (hf1.all (b := 0) (by omega)).trans (hG1.gl 0 (by decide))
  unfold formB at hQ
  cases hs : shapeB c
  · rw [hs] at hQ
    simp (disch := first | omega | (simp only [hN] <;> omega) | fail) only [go_sem, simprocAttr, g1]
    exact hQ _ (hF0.trans ⟨by first | omega | (simp only [hN]; omega), fun b hb hne => by (try simp only [hN] at hb hne); simp (disch := first | omega | (simp only [hN] <;> omega) | fail) only [go_sem, simprocAttr, hf1.old]⟩)
  · rw [hs] at hQ
    have hhd : (0 ≤ c.mutexes ∧ c.mutexes ≤ 32) ∧ (0 ≤ c.atomics ∧ c.atomics ≤ 32) := by
      simp [shapeB, headOk, inside] at hs
      omega
    simp only [cdC] at b1
    simp (disch := first | omega | (simp only [hN] <;> omega) | fail) only [go_sem, simprocAttr, b1, f4.1, f4.2]
    refine containsIns (p := fun x => !insOk c x) (hC.fr hf1).body ?_ ?_
    · intro h2 x Q' hf2 hQ'
      have hn2 := hf2.n; try simp only [hN] at hn2
      have b2 := (hf2.all (b := h.n) (by omega)).trans b1
      refine WF.code F25 rfl ?_
      simp (disch := first | omega | (simp only [hN] <;> omega) | fail) only [go_sem, simprocAttr, insC, b2, f1.1, f1.2, f2.1, f2.2, f3.1, f3.2, f4.1, f4.2]
      refine instr_spec (x := x) (((hC.fr hf1).fr hf2).fr ((Fr.refl _ _).alloc _)) hhd.1 hhd.2 ?_
      intro h3 hf3
      simp (disch := first | omega | (simp only [hN] <;> omega) | fail) only [go_sem, simprocAttr]
      exact hQ' _ ((Fr.alloc (Fr.refl _ _) _).trans (hf3.any (Nat.le_refl _)))
    · intro h2 hf2
      have hn2 := hf2.n; try simp only [hN] at hn2
      have g2 := (hf2.all (b := 0) (by omega)).trans g1
      have e : (c.body.any fun x => !insOk c x) = !(c.body.all (insOk c)) := by rw [← all_any, Bool.not_not]
      rw [e]
      cases hb : c.body.all (insOk c)
      · rw [hb] at hQ
        simp (disch := first | omega | (simp only [hN] <;> omega) | fail) only [go_sem, simprocAttr, g2]
        exact hQ _ (hF0.trans ⟨by first | omega | (simp only [hN]; omega), fun b hb hne => by (try simp only [hN] at hb hne); simp (disch := first | omega | (simp only [hN] <;> omega) | fail) only [go_sem, simprocAttr, hf2.old, hf1.old]⟩)
      · rw [hb] at hQ
        simp (disch := first | omega | (simp only [hN] <;> omega) | fail) only [go_sem, simprocAttr]
        exact hQ _ (hF0.trans ⟨by first | omega | (simp only [hN]; omega), fun b hb hne => by (try simp only [hN] at hb hne); simp (disch := first | omega | (simp only [hN] <;> omega) | fail) only [go_sem, simprocAttr, hf2.old, hf1.old]⟩)
end Go.Ev
/- Proofread: coming to an instruction. -/
namespace Go.Ev
open Go
set_option maxRecDepth 100000
set_option maxHeartbeats 4000000

/-- Old blocks but two are as they were. -/
def Fr3 (p q : Nat) (h h' : AHeap) : Prop := h.n ≤ h'.n ∧ ∀ b, b < h.n → b ≠ p → b ≠ q → h'.get b = h.get b
theorem Fr3.refl {p q : Nat} {h : AHeap} : Fr3 p q h h := ⟨Nat.le_refl _, fun _ _ _ _ => rfl⟩
theorem Fr3.trans {p q : Nat} {h h1 h2 : AHeap} (a : Fr3 p q h h1) (b : Fr3 p q h1 h2) : Fr3 p q h h2 := ⟨Nat.le_trans a.1 b.1, fun x h1 h2 h3 => (b.2 x (Nat.lt_of_lt_of_le h1 a.1) h2 h3).trans (a.2 x h1 h2 h3)⟩
theorem Fr.fr3 {p q : Nat} {h h' : AHeap} (f : Fr h.n h h') : Fr3 p q h h' := ⟨f.n, fun _ hb _ _ => f.all hb⟩
/-- What is known, in memory. -/
structure CmV (h : AHeap) (lo bS bM : Nat) (k : Kn) : Prop where
  hlo : lo ≤ h.n
  ne : bS ≠ bM
  lS : bS < lo
  lM : bM < lo
  S : ∃ ver svs, h.get bS = some ⟨ver, .cells .own 1 svs⟩ ∧ svs.length = k.length ∧ ∀ (i : Nat) (x : Option (List Int)) (v : AV), k[i]? = some x → svs[i]? = some v → IntsC h (x.getD []) v ∧ LoV lo v
  M : ∃ ver, h.get bM = some ⟨ver, .cells .own 1 (k.map fun x => .bool x.isSome)⟩
theorem lov_keep {h h' : AHeap} {lo : Nat} {l : List Int} {v : AV} (hv : IntsC h l v) (hl : LoV lo v) (hn : h.n ≤ h'.n) (f : ∀ b, lo ≤ b → b < h.n → h'.get b = h.get b) : IntsC h' l v := by
  obtain ⟨h1, h2⟩ := hv
  have a1 : IntsV h' l v := by
    have hc := h1.forms
    rcases hc with ⟨rfl, h0⟩ | ⟨b, o, c, ex, rfl⟩
    · rw [List.length_eq_zero_iff.1 h0]; exact .nil
    · have hb := hl _ _ _ _ _ rfl
      by_cases h0 : l.length = 0
      · have : l = [] := List.length_eq_zero_iff.1 h0
        subst this; exact .emp
      · obtain ⟨b', o', c', ex', ver, md, bs, e, g1, g2, g3⟩ := h1.inv (by omega)
        cases e
        exact .row (by omega) h1.small (Nat.lt_of_lt_of_le g1 hn) ((f _ hb g1).trans g2) g3
  refine ⟨a1, h2.imp id ?_⟩
  rintro ⟨b, o, c, ex, e, h3, h4⟩
  refine ⟨b, o, c, ex, e, h3, h4.imp id ?_⟩
  rintro ⟨h5, ver, md, bs, h6, h7⟩
  exact ⟨h5, ver, md, bs, (f _ (hl _ _ _ _ _ e) h7).trans h6, Nat.lt_of_lt_of_le h7 hn⟩
theorem CmV.fr {h h' : AHeap} {lo bS bM : Nat} {k : Kn} (c : CmV h lo bS bM k) (f : Fr h.n h h') : CmV h' lo bS bM k := by
  obtain ⟨h1, h2, h3, h4, ⟨ver, svs, h5, h6, h7⟩, ver2, h8⟩ := c
  have hn := f.n
  exact ⟨by omega, h2, h3, h4, ⟨ver, svs, (f.all (by omega)).trans h5, h6, fun i x v a b => ⟨(h7 i x v a b).1.fr f, (h7 i x v a b).2⟩⟩, ver2, (f.all (by omega)).trans h8⟩
/-- An instruction is come to. -/
theorem CmV.step {h : AHeap} {lo bS bM n vs vm : Nat} {k : Kn} {s : List Int} {v : AV} {svs : List AV} (c : CmV h lo bS bM k) (hn : n < k.length) (hv : IntsC h s v) (hl : LoV lo v) (g : h.get bS = some ⟨vs, .cells .own 1 svs⟩) (g2 : h.get bM = some ⟨vm, .cells .own 1 (k.map fun x => .bool x.isSome)⟩) :
    CmV ((h.upd bM (vm + 1) (.cells .own 1 ((k.map fun x => AV.bool x.isSome).set n (.bool true)))).upd bS (vs + 1) (.cells .own 1 (svs.set n v))) lo bS bM (k.set n (some s)) := by
  obtain ⟨h1, h2, h3, h4, ⟨ver, svs', h5, h6, h7⟩, ver2, h8⟩ := c
  rw [g] at h5
  cases h5
  have hk : ∀ {l : List Int} {w : AV}, IntsC h l w → LoV lo w → IntsC ((h.upd bM (vm + 1) (.cells .own 1 ((k.map fun x => AV.bool x.isSome).set n (.bool true)))).upd bS (vs + 1) (.cells .own 1 (svs.set n v))) l w := fun hw hlo => lov_keep hw hlo (Nat.le_refl _) fun b hb hbn => by
    rw [AHeap.get_upd, if_neg (by omega), AHeap.get_upd, if_neg (by omega)]
  refine ⟨h1, h2, h3, h4, ⟨vs + 1, svs.set n v, by rw [AHeap.get_upd, if_pos rfl], by simp [h6], fun i x w a b => ?_⟩, vm + 1, ?_⟩
  · rw [List.getElem?_set] at a b
    by_cases e : n = i
    · subst e
      rw [if_pos rfl, if_pos hn] at a
      rw [if_pos rfl, if_pos (by omega)] at b
      cases a; cases b
      exact ⟨hk hv hl, hl⟩
    · rw [if_neg e] at a b
      obtain ⟨a1, a2⟩ := h7 i x w a b
      exact ⟨hk a1 a2, a2⟩
  · rw [AHeap.get_upd, if_neg (by omega), AHeap.get_upd, if_pos rfl]
    rw [List.map_set]; rfl
/-- A reader in memory, whose code is older. -/
structure RdC (hb h : AHeap) (r : Nat) (c : Cd) (fn : En) (st en : Int) (bS bM : Nat) : Prop where
  o1 : hb.n ≤ r
  o2 : hb.n ≤ bS
  o3 : hb.n ≤ bM
  n1 : r ≠ bS
  n2 : r ≠ bM
  hi : r < h.n
  fr : Fr hb.n hb h
  st : ∃ ver pv chv fv bv lv, h.get r = some ⟨ver, .cells .own 0 (cdC c pv chv fv bv ++ (enC fn lv ++ [.int .i64 st, .int .i64 en, .slice bS 0 c.body.length c.body.length true, .slice bM 0 c.body.length c.body.length true]))⟩ ∧ CdV hb c pv chv fv bv ∧ IntsC hb fn.locals lv
theorem RdC.rd {hb h : AHeap} {r : Nat} {c : Cd} {fn : En} {st en : Int} {bS bM : Nat} (k : RdC hb h r c fn st en bS bM) : RdV h r c fn st en (.slice bS 0 c.body.length c.body.length true) (.slice bM 0 c.body.length c.body.length true) := by
  obtain ⟨_, _, _, _, _, h1, h2, ver, pv, chv, fv, bv, lv, h3, h4, h5⟩ := k
  exact ⟨h1, ver, pv, chv, fv, bv, lv, h3, h4.fr h2, h5.fr h2⟩
theorem RdC.fr3 {hb h h' : AHeap} {r : Nat} {c : Cd} {fn : En} {st en : Int} {bS bM : Nat} (k : RdC hb h r c fn st en bS bM) (f : Fr3 bS bM h h') : RdC hb h' r c fn st en bS bM := by
  obtain ⟨a1, a2, a3, a4, a5, h1, h2, ver, pv, chv, fv, bv, lv, h3, h4, h5⟩ := k
  have hn := h2.n
  exact ⟨a1, a2, a3, a4, a5, Nat.lt_of_lt_of_le h1 f.1, ⟨Nat.le_trans h2.n f.1, fun b hb hne => (f.2 b (by omega) (by omega) (by omega)).trans (h2.all hb)⟩, ver, pv, chv, fv, bv, lv, (f.2 r h1 a4 a5).trans h3, h4, h5⟩
end Go.Ev
/- Proofread: coming to an instruction (the walk). -/
namespace Go.Ev
open Go
set_option maxRecDepth 100000
set_option maxHeartbeats 4000000

/-- What a call that comes to an instruction does. -/
def ComeQ (h : AHeap) (lo bS bM : Nat) (Q : QR) : Option Kn → Prop
  | none => ∀ h', Fr3 bS bM h h' → Q wrongP h'
  | some k' => ∀ h', Fr3 bS bM h h' → CmV h' lo bS bM k' → Q (.ret undefA) h'
def ComeS (f : Nat) (hb : AHeap) (r lo bS bM : Nat) (c : Cd) (fn : En) (st en : Int) : Prop := ∀ {h : AHeap} {k : Kn} {s : List Int} {at_ : Int} {v : AV} {Q : QR}, RdC hb h r c fn st en bS bM → CmV h lo bS bM k → IntsC h s v → LoV lo v → k.length = c.body.length → left k < f → ComeQ h lo bS bM Q (comeP c fn st en f at_ s k) → WF F 17 [.ptr r 0, .int .i64 at_, v] h Q
theorem come_step {f : Nat} {hb : AHeap} {r lo bS bM : Nat} {c : Cd} {fn : En} {st en : Int} (hI : ∀ x ∈ c.body, insB c x = true) (hF : ∀ f ∈ c.funcs, 0 ≤ f.params ∧ f.params ≤ f.locals.length) (h0 : 0 ≤ st) (he : en ≤ c.body.length) (hsm : c.body.length ≤ 8192) (ih : ComeS f hb r lo bS bM c fn st en) : ComeS (f + 1) hb r lo bS bM c fn st en := by
  intro h k s at_ v Q hR hC hv hlv hk hf hQ
  refine WF.code F17 rfl ?_
  have hfv := hv.1.flat
  obtain ⟨e1, e2, e3, e4, e5, hi, hbf, ver, pv, chv, fv, bv, lv, hr, hcd0, hloc0⟩ := id hR
  have hcd := hcd0.fr hbf
  have hloc := hloc0.fr hbf
  simp only [cdC, enC, List.cons_append, List.nil_append] at hr
  obtain ⟨hlo, hne, hlS, hlM, ⟨vs, svs, hS, hsl, hsr⟩, vm, hM⟩ := hC
  rw [comeP] at hQ
  simp (disch := first | omega | (simp only [hN] <;> omega) | fail) only [go_sem, simprocAttr, hr, hfv.1, hfv.2]
  refine want_cut0 (fun a h' => h' = h ∧ (st ≤ at_ ∧ at_ < en) ∧ a.tm.get 0 = some (.ptr r 0) ∧ a.tm.get 1 = some (.int .i64 at_) ∧ a.tm.get 2 = some v ∧ a.df = []) ?_ ?_
  · by_cases c1 : st ≤ at_
    · have g1 : decide (at_ ≥ st) = true := decide_eq_true c1
      simp (disch := first | omega | (simp only [hN] <;> omega) | fail) only [go_sem, simprocAttr, g1, hr, hfv.1, hfv.2]
      refine need_spec ?_
      by_cases c2 : at_ < en
      · rw [if_pos (decide_eq_true c2)]
        simp (disch := first | omega | (simp only [hN] <;> omega) | fail) only [go_sem, simprocAttr]
        exact ⟨c1, c2⟩
      · rw [if_neg (by simp; omega)]
        rw [if_neg (fun h => c2 h.2)] at hQ
        simp (disch := first | omega | (simp only [hN] <;> omega) | fail) only [go_sem, simprocAttr]
        exact hQ _ Fr3.refl
    · have g1 : decide (at_ ≥ st) = false := decide_eq_false c1
      simp (disch := first | omega | (simp only [hN] <;> omega) | fail) only [go_sem, simprocAttr, g1]
      refine need_spec ?_
      rw [if_neg (by decide)]
      rw [if_neg (fun h => c1 h.1)] at hQ
      simp (disch := first | omega | (simp only [hN] <;> omega) | fail) only [go_sem, simprocAttr]
      exact hQ _ Fr3.refl
  rintro ⟨t, df⟩ h' ⟨rfl, hin, k0, k1, k2, hdf⟩
  simp only at k0 k1 k2 hdf
  subst hdf
  rw [if_pos hin] at hQ
  obtain ⟨n, rfl⟩ := Int.eq_ofNat_of_zero_le (show 0 ≤ at_ by omega)
  rw [Int.toNat_natCast] at hQ
  have hn : n < c.body.length := by omega
  have hnk : n < k.length := by omega
  have i0 : ((n : Int) < (c.body.length : Int)) = True := by simp [hn]
  have hMn : (k.map fun x => AV.bool x.isSome)[n]? = some (.bool (k.getD n none).isSome) := by simp [hnk]
  simp (disch := first | omega | (simp only [hN] <;> omega) | fail) only [go_sem, simprocAttr, k0, k1, k2, hr, hM, hMn, i0, Nat.mul_one, Int.toNat_natCast]
  cases hkn : k.getD n none with
  | some s' =>
    have hkn' : k[n]? = some (some s') := by
      rw [List.getD_eq_getElem?_getD, List.getElem?_eq_getElem hnk] at hkn
      rw [List.getElem?_eq_getElem hnk]
      simpa using hkn
    have hsv : svs[n]? = some svs[n] := List.getElem?_eq_getElem (by omega)
    obtain ⟨hsi, _⟩ := hsr n _ _ hkn' hsv
    simp only [Option.getD_some] at hsi
    rw [hkn] at hQ
    simp only at hQ
    simp (disch := first | omega | (simp only [hN] <;> omega) | fail) only [go_sem, simprocAttr, k0, k1, k2, hr, hS, hsv, i0, Nat.mul_one, Int.toNat_natCast, hsi.1.flat.1, hsi.1.flat.2, hfv.1, hfv.2, Option.isSome_some]
    refine equal_spec hsi.1 hv.1 ?_
    simp (disch := first | omega | (simp only [hN] <;> omega) | fail) only [go_sem, simprocAttr]
    refine need_spec ?_
    by_cases e : s' = s
    · rw [if_pos (by simp [e])]
      rw [if_pos e] at hQ
      simp (disch := first | omega | (simp only [hN] <;> omega) | fail) only [go_sem, simprocAttr]
      exact hQ _ Fr3.refl ⟨hlo, hne, hlS, hlM, ⟨vs, svs, hS, hsl, hsr⟩, vm, hM⟩
    · rw [if_neg (by simp [e])]
      rw [if_neg e] at hQ
      simp (disch := first | omega | (simp only [hN] <;> omega) | fail) only [go_sem, simprocAttr]
      exact hQ _ Fr3.refl
  | none =>
    rw [hkn] at hQ
    have hstep := CmV.step ⟨hlo, hne, hlS, hlM, ⟨vs, svs, hS, hsl, hsr⟩, vm, hM⟩ hnk hv hlv hS hM
    have hleft := left_set (s := s) (getD_none hnk hkn)
    simp only at hQ
    obtain ⟨b', o, cp, ex, ver', md, bs, rfl, hb', hg, hrw⟩ := hcd0.body.inv (by omega)
    replace hg := (hbf.all hb').trans hg
    have hrow : ∀ i (hi : i < c.body.length), row bs (o + i * 5) 5 = some (insC c.body[i]) := by
      intro i hi
      rw [row_sub hrw (by omega)]
      exact flat_row (f := insC) (fun _ => rfl) (List.getElem?_eq_getElem hi)
    have hx : c.body.getD n zIns = c.body[n] := by simp [List.getD, hn]
    have hI' := hI _ (List.getElem_mem hn)
    have hrn := hrow n hn
    rw [hx] at hQ
    generalize c.body[n] = x at *
    have d1 : ¬ bM = bS := fun e => hne e.symm
    have q1 : n < (k.map fun x => AV.bool x.isSome).length := by simp; omega
    have q2 : n < svs.length := by omega
    have db1 : ¬ b' = bM := by omega
    have db2 : ¬ b' = bS := by omega
    simp (disch := first | omega | (simp only [hN] <;> omega) | fail) only [go_sem, simprocAttr, k0, k1, k2, hr, hS, hM, i0, Nat.mul_one, Int.toNat_natCast, hfv.1, hfv.2, Option.isSome_none, lay_one, hg, hrn, insC]
    generalize hHH : AHeap.upd (AHeap.alloc _ _) _ _ _ = H
    have hHn : H.n = h'.n + 1 := by rw [← hHH]; simp (disch := first | omega | (simp only [hN] <;> omega) | fail) only [go_sem, simprocAttr]
    have hHx : H.get h'.n = some ⟨1, .cells .own 0 (insC x)⟩ := by rw [← hHH]; simp (disch := first | omega | (simp only [hN] <;> omega) | fail) only [go_sem, simprocAttr, insC]; rfl
    have hH3 : Fr3 bS bM h' H := by
      rw [← hHH]
      refine ⟨by simp only [hN]; omega, fun b hb h1 h2 => by simp (disch := first | omega | (simp only [hN] <;> omega) | fail) only [go_sem, simprocAttr]⟩
    have hHC : CmV H lo bS bM (k.set n (some s)) := by
      rw [← hHH]
      exact hstep.fr ⟨by first | omega | (simp only [hN]; omega), fun b hb hne => by (try simp only [hN] at hb hne); simp (disch := first | omega | (simp only [hN] <;> omega) | fail) only [go_sem, simprocAttr]⟩
    have hHR := hR.fr3 hH3
    have hHv : IntsC H s v := by
      refine lov_keep hv hlv (by omega) fun b hb hbn => hH3.2 b hbn (by omega) (by omega)
    clear hHH hstep hS hM hsr hfv
    have hHi : ∀ {b : Nat}, b < h'.n → b ≠ bS → b ≠ bM → H.get b = h'.get b := fun h1 h2 h3 => hH3.2 _ h1 h2 h3
    have hr1 := (hHi hi e4 e5).trans hr
    have hg1 := (hHi (b := b') (by have := hbf.n; omega) db2 db1).trans hg
    have hk1 : (k.set n (some s)).length = c.body.length := by simp [hk]
    have hle1 : left (k.set n (some s)) < f := by omega
    have hHlv := hv.1.flat
    clear hr hg hv
    by_cases cj : (x.op = 12 ∨ x.op = 13 ∨ x.op = 14) ∧ ¬ ((n : Int) < x.a ∨ (c.body.getD x.a.toNat zIns).op = 24)
    · rw [if_pos cj] at hQ
      obtain ⟨cj1, cj2⟩ := cj
      have ha : 0 ≤ x.a ∧ x.a < c.body.length := by
        rcases cj1 with e | e | e <;> simp [insB, inside, e] at hI' <;> omega
      obtain ⟨m, hm⟩ := Int.eq_ofNat_of_zero_le ha.1
      have hml : m < c.body.length := by omega
      have hrm := hrow m hml
      rw [hm] at cj2
      rw [Int.toNat_natCast] at cj2
      have hxm : c.body.getD m zIns = c.body[m] := by simp [List.getD, hml]
      rw [hxm] at cj2
      generalize c.body[m] = y at *
      have g1 : decide ((m : Int) > (n : Int)) = false := decide_eq_false (by omega)
      have g2 : (y.op == 24) = false := by simp; intro e; exact cj2 (.inr e)
      have im : ((m : Int) < (c.body.length : Int)) = True := by simp [hml]
      have hym : bs[o + m * 5]? = some (.int .i64 y.op) := by
        have := row_get hrm (i := 0) (by decide)
        rwa [Nat.add_zero] at this
      rcases cj1 with e | e | e <;> simp (disch := first | omega | (simp only [hN] <;> omega) | fail) only [go_sem, simprocAttr, k0, k1, k2, e, hHx, insC, hm, g1, hr1, hg1, hym, g2, im, Int.toNat_natCast, Nat.add_zero]
      all_goals
        refine need_spec ?_
        rw [if_neg (by decide)]
        simp (disch := first | omega | (simp only [hN] <;> omega) | fail) only [go_sem, simprocAttr]
        exact hQ _ hH3
    · rw [if_neg cj] at hQ
      refine want_cut (fun a h2 => h2 = H ∧ a.tm.get 0 = some (.ptr r 0) ∧ a.tm.get 1 = some (.int .i64 (n : Int)) ∧ a.tm.get 2 = some v ∧ a.tm.get 6 = some (.ptr h'.n 0) ∧ a.df = []) ?_ ?_
      · clear hQ
        by_cases cj1 : x.op = 12 ∨ x.op = 13 ∨ x.op = 14
        · have cj2 : (n : Int) < x.a ∨ (c.body.getD x.a.toNat zIns).op = 24 := by
            by_cases e : (n : Int) < x.a ∨ (c.body.getD x.a.toNat zIns).op = 24
            · exact e
            · exact absurd ⟨cj1, e⟩ cj
          have ha : 0 ≤ x.a ∧ x.a < c.body.length := by
            rcases cj1 with e | e | e <;> simp [insB, inside, e] at hI' <;> omega
          obtain ⟨m, hm⟩ := Int.eq_ofNat_of_zero_le ha.1
          have hml : m < c.body.length := by omega
          have hrm := hrow m hml
          rw [hm] at cj2
          rw [Int.toNat_natCast] at cj2
          have hxm : c.body.getD m zIns = c.body[m] := by simp [List.getD, hml]
          rw [hxm] at cj2
          clear cj ha
          generalize c.body[m] = y at *
          have im : ((m : Int) < (c.body.length : Int)) = True := by simp [hml]
          have hym : bs[o + m * 5]? = some (.int .i64 y.op) := by
            have := row_get hrm (i := 0) (by decide)
            rwa [Nat.add_zero] at this
          by_cases ga : (n : Int) < (m : Int)
          · have g1 : decide ((m : Int) > (n : Int)) = true := decide_eq_true (by omega)
            rcases cj1 with e | e | e <;> simp (disch := first | omega | (simp only [hN] <;> omega) | fail) only [go_sem, simprocAttr, k0, k1, k2, e, hHx, insC, hm, g1]
            all_goals
              refine need_spec ?_
              rw [if_pos rfl]
              simp (disch := first | omega | (simp only [hN] <;> omega) | fail) only [go_sem, simprocAttr, k0, k1, k2]
          · have g1 : decide ((m : Int) > (n : Int)) = false := decide_eq_false (by omega)
            have g2 : (y.op == 24) = true := by
              rcases cj2 with e | e
              · exact absurd e ga
              · simp [e]
            rcases cj1 with e | e | e <;> simp (disch := first | omega | (simp only [hN] <;> omega) | fail) only [go_sem, simprocAttr, k0, k1, k2, e, hHx, insC, hm, g1, hr1, hg1, hym, g2, im, Int.toNat_natCast, Nat.add_zero]
            all_goals
              refine need_spec ?_
              rw [if_pos rfl]
              simp (disch := first | omega | (simp only [hN] <;> omega) | fail) only [go_sem, simprocAttr, k0, k1, k2]
        · have g12 : (x.op == 12) = false := by simp; exact fun e => cj1 (.inl e)
          have g13 : (x.op == 13) = false := by simp; exact fun e => cj1 (.inr (.inl e))
          have g14 : (x.op == 14) = false := by simp; exact fun e => cj1 (.inr (.inr e))
          simp (disch := first | omega | (simp only [hN] <;> omega) | fail) only [go_sem, simprocAttr, k0, k1, k2, hHx, insC, g12, g13, g14]
      clear k0 k1 k2 cj hr1 hg1 hrow hrn hrw
      rintro ⟨t, df⟩ h2 ⟨rfl, k0, k1, k2, k6, hdf⟩
      simp only at k0 k1 k2 k6 hdf
      subst hdf
      have hlov : ∀ {h3 : AHeap} {l : List Int} {w : AV}, Fr3 bS bM h2 h3 → IntsC h2 l w → LoV lo w → IntsC h3 l w := fun f3 hw hlw => lov_keep hw hlw f3.1 fun b hb hbn => f3.2 b hbn (by omega) (by omega)
      by_cases e12 : x.op = 12
      · rw [if_pos e12] at hQ
        simp (disch := first | omega | (simp only [hN] <;> omega) | fail) only [go_sem, simprocAttr, k0, k1, k2, k6, hHx, insC, e12, hHlv.1, hHlv.2]
        refine ih hHR hHC hHv hlv hk1 hle1 ?_
        revert hQ
        cases comeP c fn st en f x.a s (k.set n (some s)) with
        | none => exact fun hQ h3 hf3 => by simp (disch := first | omega | (simp only [hN] <;> omega) | fail) only [go_sem, simprocAttr]; exact hQ _ (hH3.trans hf3)
        | some k2 => exact fun hQ h3 hf3 hC3 => by simp (disch := first | omega | (simp only [hN] <;> omega) | fail) only [go_sem, simprocAttr]; exact hQ _ (hH3.trans hf3) hC3
      rw [if_neg e12] at hQ
      have g12 : (x.op == 12) = false := by simp [e12]
      by_cases e13 : x.op = 13
      · rw [if_pos e13] at hQ
        simp (disch := first | omega | (simp only [hN] <;> omega) | fail) only [go_sem, simprocAttr, k0, k1, k2, k6, hHx, insC, e13, hHlv.1, hHlv.2]
        have hF0 : Fr h2.n h2 (h2.alloc (.cells .own 1 [.int .i64 3])) := (Fr.refl _ _).alloc _
        refine pop_spec (l := s) (m := [3]) (hHv.fr hF0) (ints_new (ver := 0) (l := [3]) (by simp) (Nat.lt_succ_self _) (by (first | (simp (disch := first | omega | (simp only [hN] <;> omega) | fail) only [go_sem, simprocAttr]; done) | (simp (disch := first | omega | (simp only [hN] <;> omega) | fail) only [go_sem, simprocAttr]; rfl)))) ?_
        revert hQ
        cases popP s [3] with
        | none => exact fun hQ => by simp (disch := first | omega | (simp only [hN] <;> omega) | fail) only [go_sem, simprocAttr]; exact hQ _ (hH3.trans hF0.fr3)
        | some s1 =>
          intro hQ u hu hlu
          simp only [Option.bind_some] at hQ
          have hul := hlu lo hlv
          have huf := hu.1.flat
          simp (disch := first | omega | (simp only [hN] <;> omega) | fail) only [go_sem, simprocAttr, k0, k1, k2, k6, hHx, insC, e13, huf.1, huf.2]
          refine ih (hHR.fr3 hF0.fr3) (hHC.fr hF0) hu hul hk1 hle1 ?_
          revert hQ
          cases hc : comeP c fn st en f x.a s1 (k.set n (some s)) with
          | none => exact fun hQ h3 hf3 => by simp (disch := first | omega | (simp only [hN] <;> omega) | fail) only [go_sem, simprocAttr]; exact hQ _ ((hH3.trans hF0.fr3).trans hf3)
          | some kk =>
            intro hQ h3 hf3 hC3
            simp only [Option.bind_some] at hQ
            have hf23 := hF0.fr3.trans hf3
            have hlc := comeP_left f (by simp [hk]; omega) h0 hc
            rw [hk1] at hlc
            simp (disch := first | omega | (simp only [hN] <;> omega) | fail) only [go_sem, simprocAttr, k0, k1, k2, k6, huf.1, huf.2]
            refine ih (hHR.fr3 hf23) hC3 (lov_keep hu hul hf3.1 fun b hb hbn => hf3.2 b hbn (by omega) (by omega)) hul hlc.1 (by omega) ?_
            revert hQ
            cases comeP c fn st en f ((n : Int) + 1) s1 kk with
            | none => exact fun hQ h4 hf4 => by simp (disch := first | omega | (simp only [hN] <;> omega) | fail) only [go_sem, simprocAttr]; exact hQ _ ((hH3.trans hf23).trans hf4)
            | some k3 => exact fun hQ h4 hf4 hC4 => by simp (disch := first | omega | (simp only [hN] <;> omega) | fail) only [go_sem, simprocAttr]; exact hQ _ ((hH3.trans hf23).trans hf4) hC4
      rw [if_neg e13] at hQ
      have g13 : (x.op == 13) = false := by simp [e13]
      by_cases e14 : x.op = 14
      · rw [if_pos e14] at hQ
        simp (disch := first | omega | (simp only [hN] <;> omega) | fail) only [go_sem, simprocAttr, k0, k1, k2, k6, hHx, insC, e14, hHlv.1, hHlv.2]
        refine ih hHR hHC hHv hlv hk1 hle1 ?_
        revert hQ
        cases hc : comeP c fn st en f x.a s (k.set n (some s)) with
        | none => exact fun hQ h3 hf3 => by simp (disch := first | omega | (simp only [hN] <;> omega) | fail) only [go_sem, simprocAttr]; exact hQ _ (hH3.trans hf3)
        | some kk =>
          intro hQ h3 hf3 hC3
          simp only [Option.bind_some] at hQ
          have hlc := comeP_left f (by simp [hk]; omega) h0 hc
          rw [hk1] at hlc
          have hv3 := hlov hf3 hHv hlv
          have hF0 : Fr h3.n h3 (h3.alloc (.cells .own 1 [.int .i64 3])) := (Fr.refl _ _).alloc _
          simp (disch := first | omega | (simp only [hN] <;> omega) | fail) only [go_sem, simprocAttr, k0, k1, k2, k6, hHlv.1, hHlv.2]
          refine pop_spec (l := s) (m := [3]) (hv3.fr hF0) (ints_new (ver := 0) (l := [3]) (by simp) (Nat.lt_succ_self _) (by (first | (simp (disch := first | omega | (simp only [hN] <;> omega) | fail) only [go_sem, simprocAttr]; done) | (simp (disch := first | omega | (simp only [hN] <;> omega) | fail) only [go_sem, simprocAttr]; rfl)))) ?_
          revert hQ
          cases popP s [3] with
          | none => exact fun hQ => by simp (disch := first | omega | (simp only [hN] <;> omega) | fail) only [go_sem, simprocAttr]; exact hQ _ ((hH3.trans hf3).trans hF0.fr3)
          | some s1 =>
            intro hQ u hu hlu
            simp only [Option.bind_some] at hQ
            have hul := hlu lo hlv
            have huf := hu.1.flat
            simp (disch := first | omega | (simp only [hN] <;> omega) | fail) only [go_sem, simprocAttr, k0, k1, k2, k6, huf.1, huf.2]
            refine ih ((hHR.fr3 hf3).fr3 hF0.fr3) (hC3.fr hF0) hu hul hlc.1 (by omega) ?_
            revert hQ
            cases comeP c fn st en f ((n : Int) + 1) s1 kk with
            | none => exact fun hQ h4 hf4 => by simp (disch := first | omega | (simp only [hN] <;> omega) | fail) only [go_sem, simprocAttr]; exact hQ _ (((hH3.trans hf3).trans hF0.fr3).trans hf4)
            | some k3 => exact fun hQ h4 hf4 hC4 => by simp (disch := first | omega | (simp only [hN] <;> omega) | fail) only [go_sem, simprocAttr]; exact hQ _ (((hH3.trans hf3).trans hF0.fr3).trans hf4) hC4
      rw [if_neg e14] at hQ
      have g14 : (x.op == 14) = false := by simp [e14]
      simp (disch := first | omega | (simp only [hN] <;> omega) | fail) only [go_sem, simprocAttr, k0, k1, k2, k6, hHx, insC, g12, g13, g14, hHlv.1, hHlv.2]
      refine does_spec (x := x) hI' hF hHR.rd hHv ?_
      revert hQ
      cases doesP c fn x s with
      | none => exact fun hQ h3 hf3 => by simp (disch := first | omega | (simp only [hN] <;> omega) | fail) only [go_sem, simprocAttr]; exact hQ _ (hH3.trans hf3.fr3)
      | some s1 =>
        intro hQ h3 u hf3 hu hlu
        have hn3 := hf3.n; try simp only [hN] at hn3
        simp only [Option.bind_some] at hQ
        have hul := hlu lo (by omega) hlv
        have huf := hu.1.flat
        have hx3 := (hf3.all (b := h'.n) (by omega)).trans hHx
        have hC3 := hHC.fr hf3
        by_cases e25 : x.op = 25
        · rw [if_pos (.inl e25)] at hQ
          simp (disch := first | omega | (simp only [hN] <;> omega) | fail) only [go_sem, simprocAttr, k0, k1, k2, k6, hx3, insC, e25]
          exact hQ _ (hH3.trans hf3.fr3) hC3
        by_cases e26 : x.op = 26
        · rw [if_pos (.inr e26)] at hQ
          simp (disch := first | omega | (simp only [hN] <;> omega) | fail) only [go_sem, simprocAttr, k0, k1, k2, k6, hx3, insC, e26]
          exact hQ _ (hH3.trans hf3.fr3) hC3
        rw [if_neg (fun h => h.elim e25 e26)] at hQ
        have g25 : (x.op != 25) = true := by simp [e25]
        have g26 : (x.op != 26) = true := by simp [e26]
        simp (disch := first | omega | (simp only [hN] <;> omega) | fail) only [go_sem, simprocAttr, k0, k1, k2, k6, hx3, insC, g25, g26, huf.1, huf.2]
        refine ih (hHR.fr3 hf3.fr3) hC3 hu hul hk1 hle1 ?_
        revert hQ
        cases comeP c fn st en f ((n : Int) + 1) s1 (k.set n (some s)) with
        | none => exact fun hQ h4 hf4 => by simp (disch := first | omega | (simp only [hN] <;> omega) | fail) only [go_sem, simprocAttr]; exact hQ _ ((hH3.trans hf3.fr3).trans hf4)
        | some k3 => exact fun hQ h4 hf4 hC4 => by simp (disch := first | omega | (simp only [hN] <;> omega) | fail) only [go_sem, simprocAttr]; exact hQ _ ((hH3.trans hf3.fr3).trans hf4) hC4
theorem come_spec {hb : AHeap} {r lo bS bM : Nat} {c : Cd} {fn : En} {st en : Int} (hI : ∀ x ∈ c.body, insB c x = true) (hF : ∀ f ∈ c.funcs, 0 ≤ f.params ∧ f.params ≤ f.locals.length) (h0 : 0 ≤ st) (he : en ≤ c.body.length) (hsm : c.body.length ≤ 8192) : ∀ f, ComeS f hb r lo bS bM c fn st en
  | 0 => fun _ _ _ _ _ h => absurd h (Nat.not_lt_zero _)
  | f + 1 => come_step hI hF h0 he hsm (come_spec hI hF h0 he hsm f)
end Go.Ev
/- Proofread: the stacks of a code. -/
namespace Go.Ev
open Go
set_option maxRecDepth 100000
set_option maxHeartbeats 4000000

theorem wrec_ret {o b : Nat} {h : AHeap} {Q : AHeap → Prop} (hQ : Q h) : WDef F 16 [.ptr o 0, .ptr b 0] .ret h Q := by
  refine WDef.code F16 rfl ?_
  simp (disch := first | omega | (simp only [hN] <;> omega) | fail) only [go_sem, simprocAttr, eqT, eqK]
  exact hQ
theorem wrec_stop {o b v1 v2 : Nat} {h : AHeap} {x1 x2 : AV} {Q : AHeap → Prop} (hG : h.get 0 = some ⟨0, .cells .ro 0 [errAV 9]⟩) (hg : 17 ≤ o) (ho : h.get o = some ⟨v1, .cells .own 0 [x1]⟩) (hb : h.get b = some ⟨v2, .cells .own 0 [x2]⟩) (hob : o ≠ b) (hon : o < h.n) (hbn : b < h.n)
    (hQ : ∀ h', h.n ≤ h'.n → (∀ c, c < h.n → c ≠ o → c ≠ b → h'.get c = h.get c) → (∃ v, h'.get o = some ⟨v, .cells .own 0 [.nilSlice]⟩) → (∃ v, h'.get b = some ⟨v, .cells .own 0 [errAV 9]⟩) → Q h') :
    WDef F 16 [.ptr o 0, .ptr b 0] (.pan (.iface 50 (.agg []))) h Q := by
  refine WDef.code F16 rfl ?_
  simp (disch := first | omega | (simp only [hN] <;> omega) | fail) only [go_sem, simprocAttr, eqT, eqK, Nat.beq_refl, ho, hb, hG]
  refine hQ _ (by simp only [hN]; omega) (fun c hc h1 h2 => ?_) ⟨v1 + 1, ?_⟩ ⟨v2 + 1, ?_⟩
  · simp (disch := first | omega | (simp only [hN] <;> omega) | fail) only [go_sem, simprocAttr]
  · simp (disch := first | omega | (simp only [hN] <;> omega) | fail) only [go_sem, simprocAttr]
  · simp (disch := first | omega | (simp only [hN] <;> omega) | fail) only [go_sem, simprocAttr]
theorem repl_one (x : AV) : ∀ n, repl [x] n = List.replicate n x
  | 0 => rfl
  | n + 1 => by rw [repl, repl_one x n, List.replicate_succ]; rfl
theorem ensOk_all {nb : Int} : ∀ {l : List En} {last : Int} {first : Bool}, ensOk nb last first l = true → ∀ f ∈ l, last < f.start ∧ f.start < nb ∧ 0 ≤ f.params ∧ f.params ≤ f.locals.length
  | [], _, _, _, f, hf => by cases hf
  | g :: l, last, first, h, f, hf => by
    simp only [ensOk, Bool.and_eq_true] at h
    obtain ⟨h1, h2⟩ := h
    have hg : last < g.start ∧ g.start < nb ∧ 0 ≤ g.params ∧ g.params ≤ g.locals.length := by
      simp [enOk, inside] at h1
      omega
    rcases List.mem_cons.1 hf with rfl | hf
    · exact hg
    · have := ensOk_all h2 f hf
      omega
theorem form_facts {c : Cd} (h : formB c = true) : (∀ x ∈ c.body, insB c x = true) ∧ c.body.length ≤ 8192 ∧ ∀ f ∈ c.funcs, 0 ≤ f.start ∧ f.start < c.body.length ∧ 0 ≤ f.params ∧ f.params ≤ f.locals.length := by
  simp only [formB, shapeB, Bool.and_eq_true] at h
  obtain ⟨⟨⟨⟨h1, _⟩, h3⟩, _⟩, h5⟩ := h
  refine ⟨fun x hx => ?_, ?_, fun f hf => ?_⟩
  · have := List.all_eq_true.1 h5 x hx
    simp only [insOk, Bool.and_eq_true] at this
    exact this.2
  · simp [headOk] at h1
    omega
  · have := ensOk_all h3 f hf
    omega
theorem CmV.updR {h : AHeap} {lo bS bM r v : Nat} {k : Kn} {o : AObj} (c : CmV h lo bS bM k) (h1 : r ≠ bS) (h2 : r ≠ bM) (h3 : r < lo) : CmV (h.upd r v o) lo bS bM k := by
  obtain ⟨q1, q2, q3, q4, ⟨vS, svs, q5, q6, q7⟩, vM, q8⟩ := c
  refine ⟨q1, q2, q3, q4, ⟨vS, svs, by rw [AHeap.get_upd, if_neg (by omega)]; exact q5, q6, fun j x w e1 e2 => ?_⟩, vM, by rw [AHeap.get_upd, if_neg (by omega)]; exact q8⟩
  obtain ⟨w1, w2⟩ := q7 j x w e1 e2
  exact ⟨lov_keep w1 w2 (Nat.le_refl _) fun b hb hbn => by rw [AHeap.get_upd, if_neg (by omega)], w2⟩
theorem NewV.intsC {lo : Nat} {h : AHeap} {l : List Int} {u : AV} (n : NewV lo h l u) (hs : l.length < 2 ^ 61) : IntsC h l u := by
  refine ⟨n.ints hs, ?_⟩
  rcases n with ⟨rfl, rfl | ⟨b, ver, rfl, _⟩⟩ | ⟨b, ver, rfl, h0, _, h2, h3⟩
  · exact .inl rfl
  · exact .inr ⟨b, 0, 0, true, rfl, Nat.le_refl _, .inl rfl⟩
  · exact .inr ⟨b, 0, _, false, rfl, Nat.le_refl _, .inr ⟨h0, ver, .own, _, h3, h2⟩⟩
theorem NewV.lov {lo lo' : Nat} {h : AHeap} {l : List Int} {u : AV} (n : NewV lo h l u) (hl : lo' ≤ lo) : LoV lo' u := by
  intro b' o' n' c' ex' e
  rcases n with ⟨rfl, rfl | ⟨b, ver, rfl, h1, _⟩⟩ | ⟨b, ver, rfl, h0, h1, h2, h3⟩
  · cases e
  · cases e; omega
  · cases e; omega
theorem slv_of {h : AHeap} {b ver n c : Nat} {ex : Bool} {svs : List AV} (hn : n < 2 ^ 61) (hl : svs.length = n) (hb : b < h.n) (hg : h.get b = some ⟨ver, .cells .own 1 svs⟩) : SlV h 1 n svs (.slice b 0 n c ex) := by
  by_cases h0 : n = 0
  · subst h0
    rw [List.length_eq_zero_iff.1 hl]; exact .emp
  · exact .row (by omega) hn hb hg (row_all (by omega))
theorem left_le {k : Kn} : left k ≤ k.length := List.countP_le_length
/-- Lists of ints in memory. -/
def StksV (h : AHeap) (ls : List (List Int)) (v : AV) : Prop := ∃ svs, SlV h 1 ls.length svs v ∧ ∀ (i : Nat) (l : List Int) (w : AV), ls[i]? = some l → svs[i]? = some w → IntsV h l w
theorem stacks_spec {h : AHeap} {c : Cd} {pv chv fv bv : AV} (hG : GH h) (hC : CdV h c pv chv fv bv) {Q : QR} (hQ : match stacksP c with
    | none => ∀ h', Fr h.n h h' → Q (.ret (.tuple [.nilSlice, errAV 9])) h'
    | some ls => ∀ h' v, Fr h.n h h' → StksV h' ls v → Q (.ret (.tuple [v, .nilIface])) h') : WF F 8 [.agg (cdC c pv chv fv bv)] h Q := by
  refine WF.code F8 rfl ?_
  obtain ⟨f1, f2, f3, f4⟩ := hC.flats
  obtain ⟨l1, l2, l3, l4⟩ := hC.lens
  have hGn := hG.n
  simp (disch := first | omega | (simp only [hN] <;> omega) | fail) only [go_sem, simprocAttr, cdC, f1.1, f1.2, f2.1, f2.2, f3.1, f3.2, f4.1, f4.2]
  have hF0 : Fr h.n h (((h.alloc (.cells .own 0 (cdC c pv chv fv bv))).alloc (.cells .own 0 [.nilSlice])).alloc (.cells .own 0 [.nilIface])) := (((Fr.refl _ _).alloc _).alloc _).alloc _
  have hG1 := ((hG.alloc (.cells .own 0 (cdC c pv chv fv bv))).alloc (.cells .own 0 [.nilSlice])).alloc (.cells .own 0 [.nilIface])
  simp only [cdC] at hF0 hG1
  generalize hHH : AHeap.alloc (AHeap.alloc (AHeap.alloc h _) _) _ = H at hF0 hG1 ⊢
  have hHn : H.n = h.n + 3 := by rw [← hHH]; simp (disch := first | omega | (simp only [hN] <;> omega) | fail) only [go_sem, simprocAttr]
  have b0 : H.get h.n = some ⟨0, .cells .own 0 (cdC c pv chv fv bv)⟩ := by rw [← hHH]; simp (disch := first | omega | (simp only [hN] <;> omega) | fail) only [go_sem, simprocAttr, cdC]
  have b1 : H.get (h.n + 1) = some ⟨0, .cells .own 0 [.nilSlice]⟩ := by rw [← hHH]; simp (disch := first | omega | (simp only [hN] <;> omega) | fail) only [go_sem, simprocAttr]
  have b2 : H.get (h.n + 1 + 1) = some ⟨0, .cells .own 0 [.nilIface]⟩ := by rw [← hHH]; simp (disch := first | omega | (simp only [hN] <;> omega) | fail) only [go_sem, simprocAttr]
  clear hHH
  refine check_spec hG1 (hC.fr hF0) ?_
  intro h1 hf1
  have hn1 := hf1.n; try simp only [hN] at hn1
  have c0 := (hf1.all (b := h.n) (by omega)).trans b0
  have c1 := (hf1.all (b := h.n + 1) (by omega)).trans b1
  have c2 := (hf1.all (b := h.n + 1 + 1) (by omega)).trans b2
  unfold stacksP at hQ
  cases hfm : formB c
  · rw [hfm] at hQ
    simp only [Bool.false_eq_true, if_false] at hQ ⊢
    simp (disch := first | omega | (simp only [hN] <;> omega) | fail) only [go_sem, simprocAttr, c0, c1, c2]
    refine hQ _ ?_
    have hF1 : Fr h.n h h1 := hF0.trans (hf1.any (by omega))
    exact ⟨by first | omega | (simp only [hN]; omega), fun b hb hne => by (try simp only [hN] at hb hne); simp (disch := first | omega | (simp only [hN] <;> omega) | fail) only [go_sem, simprocAttr, hF1.old]⟩
  · rw [hfm] at hQ
    simp only [if_true] at hQ ⊢
    simp only [cdC] at c0
    obtain ⟨hI, hsm, hFs⟩ := form_facts hfm
    have r1 : decide ((c.body.length : Int) ≤ (room : Int)) = true := decide_eq_true (by simp only [room]; omega)
    have r2 : decide ((c.body.length : Int) * 24 ≤ (room : Int)) = true := decide_eq_true (by simp only [room]; omega)
    have r3 : decide ((c.body.length : Int) * 1 ≤ (room : Int)) = true := decide_eq_true (by simp only [room]; omega)
    have d1 : decide (h.n = h1.n) = false := decide_eq_false (by omega)
    have d2 : decide (h.n = h1.n + 1) = false := decide_eq_false (by omega)
    have d3 : decide (h.n = h1.n + 1 + 1) = false := decide_eq_false (by omega)
    simp (disch := first | omega | (simp only [hN] <;> omega) | fail) only [go_sem, simprocAttr, c0, c1, c2, eqT_nil, f1.1, f1.2, f2.1, f2.2, f3.1, f3.2, f4.1, f4.2, l4, l3, r1, r2, r3, d1, d2, d3]
    have hF1 : Fr h.n h h1 := hF0.trans (hf1.any (by omega))
    have hG2 := hf1.gh hG1.n hG1
    have g9 := hG2.gl 0 (by decide)
    generalize hHH : AHeap.alloc (AHeap.alloc (AHeap.alloc h1 _) _) _ = H2
    have hH2 : H2.n = h1.n + 3 := by rw [← hHH]; simp (disch := first | omega | (simp only [hN] <;> omega) | fail) only [go_sem, simprocAttr]
    have e0 : H2.get h.n = some ⟨0, .cells .own 0 (cdC c pv chv fv bv)⟩ := by rw [← hHH]; simp (disch := first | omega | (simp only [hN] <;> omega) | fail) only [go_sem, simprocAttr, c0, cdC]
    have e1 : H2.get (h.n + 1) = some ⟨0, .cells .own 0 [.nilSlice]⟩ := by rw [← hHH]; simp (disch := first | omega | (simp only [hN] <;> omega) | fail) only [go_sem, simprocAttr, c1]
    have e2 : H2.get (h.n + 1 + 1) = some ⟨0, .cells .own 0 [.nilIface]⟩ := by rw [← hHH]; simp (disch := first | omega | (simp only [hN] <;> omega) | fail) only [go_sem, simprocAttr, c2]
    have eS : H2.get h1.n = some ⟨0, .cells .own 1 (List.replicate c.body.length .nilSlice)⟩ := by rw [← hHH, ← repl_one]; simp (disch := first | omega | (simp only [hN] <;> omega) | fail) only [go_sem, simprocAttr]
    have eM : H2.get (h1.n + 1) = some ⟨0, .cells .own 1 (List.replicate c.body.length (.bool false))⟩ := by rw [← hHH, ← repl_one]; simp (disch := first | omega | (simp only [hN] <;> omega) | fail) only [go_sem, simprocAttr]
    have eR : H2.get (h1.n + 1 + 1) = some ⟨0, .cells .own 0 (cdC c pv chv fv bv ++ (enC ⟨0, 0, []⟩ .nilSlice ++ [.int .i64 0, .int .i64 0, .slice h1.n 0 c.body.length c.body.length true, .slice (h1.n + 1) 0 c.body.length c.body.length true]))⟩ := by
      rw [← hHH]
      simp only [cdC, enC, List.cons_append, List.nil_append]
      simp (disch := first | omega | (simp only [hN] <;> omega) | fail) only [go_sem, simprocAttr]
    have eF : Fr h.n h H2 := by
      rw [← hHH]
      exact ((hF1.alloc _).alloc _).alloc _
    clear hHH
    have hR0 : RdC h H2 (h1.n + 1 + 1) c ⟨0, 0, []⟩ 0 0 h1.n (h1.n + 1) := ⟨by omega, by omega, by omega, by omega, by omega, by omega, eF, 0, pv, chv, fv, bv, .nilSlice, eR, hC, .nil, .inl rfl⟩
    have hC0 : CmV H2 (h1.n + 3) h1.n (h1.n + 1) (List.replicate c.body.length none) := by
      refine ⟨by omega, by omega, by omega, by omega, ⟨0, _, eS, by simp, fun i x v hx hv => ?_⟩, 0, ?_⟩
      · rw [List.getElem?_replicate] at hx hv
        split at hx
        · rename_i hi
          rw [if_pos hi] at hv
          cases hx; cases hv
          exact ⟨⟨.nil, .inl rfl⟩, LoV.nil⟩
        · cases hx
      · rw [eM, List.map_replicate]; rfl
    have hBn : h.n + 3 ≤ h1.n := by omega
    clear c0 c1 c2 d1 d2 d3 eS eM eR hF0 hF1 hf1 hG1 b0 b1 b2 hn1
    have hR : ∃ R, funcsP c c.funcs (List.replicate c.body.length none) = R := ⟨_, rfl⟩
    obtain ⟨R, hR⟩ := hR
    rw [hR] at hQ
    have hpan : ∀ (H3 : AHeap), Fr h.n h H3 → h.n + 3 ≤ H3.n → H3.get (h.n + 1) = some ⟨0, .cells .own 0 [.nilSlice]⟩ → H3.get (h.n + 1 + 1) = some ⟨0, .cells .own 0 [.nilIface]⟩ → R = none → ∀ (K : AHeap → Prop), (∀ h', (∃ v, h'.get (h.n + 1) = some ⟨v, .cells .own 0 [.nilSlice]⟩) → (∃ v, h'.get (h.n + 1 + 1) = some ⟨v, .cells .own 0 [errAV 9]⟩) → Q (.ret (.tuple [.nilSlice, errAV 9])) h' → K h') → WDef F 16 [.ptr (h.n + 1) 0, .ptr (h.n + 1 + 1) 0] (.pan (.iface 50 (.agg []))) H3 K := by
      intro H3 hF3 hn3 a1 a2 hRn K hK
      subst hRn
      have hG3 := hF3.gh hGn hG
      refine wrec_stop (hG3.gl 0 (by decide)) (by omega) a1 a2 (by omega) (by omega) (by omega) ?_
      intro h' q1 q2 q3 q4
      refine hK h' q3 q4 (hQ h' ⟨by omega, fun b hb _ => ?_⟩)
      rw [q2 b (by omega) (by omega) (by omega), hF3.all hb]
    generalize h1.n = B at *
    refine wp_loopx 0 (fun m a h' => ∃ (i : Nat) (k : Kn) (fn : En) (st en : Int), m = c.funcs.length - i ∧ i ≤ c.funcs.length ∧ RdC h h' (B + 1 + 1) c fn st en B (B + 1) ∧ CmV h' (B + 3) B (B + 1) k ∧ k.length = c.body.length ∧ h'.get h.n = some ⟨0, .cells .own 0 (cdC c pv chv fv bv)⟩ ∧ h'.get (h.n + 1) = some ⟨0, .cells .own 0 [.nilSlice]⟩ ∧ h'.get (h.n + 1 + 1) = some ⟨0, .cells .own 0 [.nilIface]⟩ ∧ funcsP c (c.funcs.drop i) k = R ∧ a.tm.get 1 = some (.ptr h.n 0) ∧ a.tm.get 2 = some (.ptr (h.n + 1) 0) ∧ a.tm.get 3 = some (.ptr (h.n + 1 + 1) 0) ∧ a.tm.get 5 = some (.ptr (B + 1 + 1) 0) ∧ a.tm.get 27 = some fv ∧ a.tm.get 28 = some (.int .i64 (c.funcs.length : Int)) ∧ a.tm.get 29 = some (.int .i64 (i : Int)) ∧ a.df = [(16, [.ptr (h.n + 1) 0, .ptr (h.n + 1 + 1) 0])])
      (fun a h' => ∃ (k : Kn) (fn : En) (st en : Int), RdC h h' (B + 1 + 1) c fn st en B (B + 1) ∧ CmV h' (B + 3) B (B + 1) k ∧ k.length = c.body.length ∧ h'.get h.n = some ⟨0, .cells .own 0 (cdC c pv chv fv bv)⟩ ∧ h'.get (h.n + 1) = some ⟨0, .cells .own 0 [.nilSlice]⟩ ∧ h'.get (h.n + 1 + 1) = some ⟨0, .cells .own 0 [.nilIface]⟩ ∧ R = some k ∧ a.tm.get 1 = some (.ptr h.n 0) ∧ a.tm.get 2 = some (.ptr (h.n + 1) 0) ∧ a.tm.get 3 = some (.ptr (h.n + 1 + 1) 0) ∧ a.tm.get 5 = some (.ptr (B + 1 + 1) 0) ∧ a.df = [(16, [.ptr (h.n + 1) 0, .ptr (h.n + 1 + 1) 0])]) ?_ ?_ c.funcs.length ?_
    · rintro m ⟨t, df⟩ h2 ⟨i, k, fn, st, en, hm, hi, hRd, hCm, hkl, a0, a1, a2, hfp, k1, k2, k3, k5, k27, k28, k29, hdf⟩
      simp only at k1 k2 k3 k5 k27 k28 k29 hdf
      subst hdf
      by_cases hil : i < c.funcs.length
      · obtain ⟨css, hE, hfs⟩ := hC.funcs
        obtain ⟨b', o, cp, ex, ver', md, bs, rfl, hb, hg, hrw⟩ := hfs.inv (by omega)
        obtain ⟨lv, hrow, hlv⟩ := hE.at hil
        have hrow' : ∀ j (hj : j < c.funcs.length), ∃ lv, row bs (o + j * 3) 3 = some (enC c.funcs[j] lv) := by
          intro j hj
          obtain ⟨lv, h1, _⟩ := hE.at hj
          exact ⟨lv, by rw [row_sub hrw (by omega)]; exact h1⟩
        rw [← row_sub hrw (by omega)] at hrow
        have hff := hFs _ (List.getElem_mem hil)
        have hfsm := hfs.small
        rw [List.drop_eq_getElem_cons hil] at hfp
        rw [funcsP_cons] at hfp
        obtain ⟨o1, o2, o3, n1, n2, hi', hfr, ver, pv', chv', fv', bv', lv', hr, hcd, hl'⟩ := hRd
        have hn2 := hfr.n
        have hlo := hCm.hlo
        have hg2 := (hfr.all hb).trans hg
        have i1 : ((i : Int) < (c.funcs.length : Int)) = True := by simp [hil]
        have i2 : decide ((i : Int) < (c.funcs.length : Int)) = true := decide_eq_true (by omega)
        have iN : ((i : Int) + 1) = ((i + 1 : Nat) : Int) := by omega
        have hlf := hlv.1.flat
        generalize c.funcs[i] = f at *
        simp only [cdC, enC, List.cons_append, List.nil_append] at hr a0 hrow
        have d1 : decide (B + 1 + 1 = h2.n) = false := decide_eq_false (by omega)
        have d2 : decide (h2.n = B + 1 + 1) = false := decide_eq_false (by omega)
        have d3 : decide (h.n = B + 1 + 1) = false := decide_eq_false (by omega)
        simp (disch := first | omega | (simp only [hN] <;> omega) | fail) only [go_sem, simprocAttr, k1, k2, k3, k5, k27, k28, k29, i1, i2, hg2, hrow, hr, a0, l4, l3, Int.toNat_natCast, hlf.1, hlf.2, d1, d2, d3, iN]
        generalize hHH : AHeap.upd (AHeap.upd (AHeap.upd (AHeap.upd (AHeap.alloc h2 _) _ _ _) _ _ _) _ _ _) _ _ _ = H3
        have hHn : H3.n = h2.n + 1 := by rw [← hHH]; simp (disch := first | omega | (simp only [hN] <;> omega) | fail) only [go_sem, simprocAttr]
        have ho : ∀ b, b < h2.n → b ≠ B + 1 + 1 → H3.get b = h2.get b := fun b h1 h2 => by rw [← hHH]; simp (disch := first | omega | (simp only [hN] <;> omega) | fail) only [go_sem, simprocAttr]
        have hT : H3.get h2.n = some ⟨1, .cells .own 0 (enC f lv)⟩ := by rw [← hHH]; simp (disch := first | omega | (simp only [hN] <;> omega) | fail) only [go_sem, simprocAttr, enC]
        have hRR : H3.get (B + 1 + 1) = some ⟨ver + 1 + 1 + 1, .cells .own 0 (cdC c pv' chv' fv' bv' ++ (enC f lv ++ [.int .i64 f.start, .int .i64 (c.body.length : Int), .slice B 0 c.body.length c.body.length true, .slice (B + 1) 0 c.body.length c.body.length true]))⟩ := by
          rw [← hHH]
          simp only [cdC, enC, List.cons_append, List.nil_append]
          simp (disch := first | omega | (simp only [hN] <;> omega) | fail) only [go_sem, simprocAttr]
        have hC3 : CmV H3 (B + 3) B (B + 1) k := by
          obtain ⟨q1, q2, q3, q4, ⟨vS, svs, q5, q6, q7⟩, vM, q8⟩ := hCm
          refine ⟨by omega, q2, q3, q4, ⟨vS, svs, (ho _ (by omega) (by omega)).trans q5, q6, fun j x w e1 e2 => ?_⟩, vM, (ho _ (by omega) (by omega)).trans q8⟩
          obtain ⟨w1, w2⟩ := q7 j x w e1 e2
          exact ⟨lov_keep w1 w2 (by omega) fun b hb hbn => ho b hbn (by omega), w2⟩
        have hF3 : Fr h.n h H3 := ⟨by omega, fun b hb _ => by rw [ho b (by omega) (by omega)]; exact hfr.all hb⟩
        have hRd3 : RdC h H3 (B + 1 + 1) c f f.start c.body.length B (B + 1) := ⟨o1, o2, o3, n1, n2, by omega, hF3, _, pv', chv', fv', bv', lv, hRR, hcd, hlv⟩
        have a0' := (ho h.n (by omega) (by omega)).trans a0
        have a1' := (ho (h.n + 1) (by omega) (by omega)).trans a1
        have a2' := (ho (h.n + 1 + 1) (by omega) (by omega)).trans a2
        have hg3 := (ho b' (by omega) (by omega)).trans hg2
        clear hHH hr ho hg2 a0 a1 a2 hCm
        refine cond_cut (fun a h' => ∃ en, en = nextSt c (c.funcs.drop (i + 1)) ∧ en ≤ c.body.length ∧ RdC h h' (B + 1 + 1) c f f.start en B (B + 1) ∧ CmV h' (B + 3) B (B + 1) k ∧ h'.get h.n = some ⟨0, .cells .own 0 (cdC c pv chv (.slice b' o c.funcs.length cp ex) bv)⟩ ∧ h'.get (h.n + 1) = some ⟨0, .cells .own 0 [.nilSlice]⟩ ∧ h'.get (h.n + 1 + 1) = some ⟨0, .cells .own 0 [.nilIface]⟩ ∧ h'.get h2.n = some ⟨1, .cells .own 0 (enC f lv)⟩ ∧ h2.n < h'.n ∧ a.tm.get 1 = some (.ptr h.n 0) ∧ a.tm.get 2 = some (.ptr (h.n + 1) 0) ∧ a.tm.get 3 = some (.ptr (h.n + 1 + 1) 0) ∧ a.tm.get 5 = some (.ptr (B + 1 + 1) 0) ∧ a.tm.get 7 = some (.ptr h2.n 0) ∧ a.tm.get 27 = some (.slice b' o c.funcs.length cp ex) ∧ a.tm.get 28 = some (.int .i64 (c.funcs.length : Int)) ∧ a.tm.get 29 = some (.int .i64 (i : Int)) ∧ a.df = [(16, [.ptr (h.n + 1) 0, .ptr (h.n + 1 + 1) 0])]) ?_ ?_
        · by_cases hin : i + 1 < c.funcs.length
          · have g1 : decide (((i + 1 : Nat) : Int) < (c.funcs.length : Int)) = true := decide_eq_true (by omega)
            have i3 : (((i + 1 : Nat) : Int) < (c.funcs.length : Int)) = True := by simp; omega
            have hns : nextSt c (c.funcs.drop (i + 1)) = c.funcs[i + 1].start := by rw [List.drop_eq_getElem_cons hin]; rfl
            obtain ⟨lv2, hrow2⟩ := hrow' (i + 1) hin
            have hst : bs[o + (i + 1) * 3]? = some (.int .i64 c.funcs[i + 1].start) := by
              have := row_get hrow2 (i := 0) (by decide)
              rwa [Nat.add_zero] at this
            have hff2 := hFs _ (List.getElem_mem hin)
            rw [hns]
            generalize c.funcs[i + 1].start = sn at *
            simp only [cdC, enC, List.cons_append, List.nil_append] at hRR a0'
            simp (disch := first | omega | (simp only [hN] <;> omega) | fail) only [go_sem, simprocAttr, g1, k1, k2, k3, k5, k27, k28, k29, a0', iN, hg3, hst, i3, hRR, Int.toNat_natCast, Nat.add_zero]
            refine ⟨sn, rfl, by omega, ⟨o1, o2, o3, n1, n2, by rw [AHeap.upd_n]; omega, hF3.updNew (by omega) _ _, _, pv', chv', fv', bv', lv, by rw [AHeap.get_upd, if_pos rfl]; rfl, hcd, hlv⟩, hC3.updR (by omega) (by omega) (by omega), rfl, a1', a2', hT, by omega⟩
          · have g1 : decide (((i + 1 : Nat) : Int) < (c.funcs.length : Int)) = false := decide_eq_false (by omega)
            have hns : nextSt c (c.funcs.drop (i + 1)) = c.body.length := by rw [List.drop_of_length_le (by omega)]; rfl
            rw [hns]
            simp (disch := first | omega | (simp only [hN] <;> omega) | fail) only [go_sem, simprocAttr, g1, k1, k2, k3, k5, k27, k28, k29]
            exact ⟨_, rfl, Int.le_refl _, hRd3, hC3, a0', a1', a2', hT, by omega⟩
        · clear k1 k2 k3 k5 k27 k28 k29 hRR hRd3 hC3 a0' a1' a2' hg3 hT hrow'
          rintro ⟨t, df⟩ H4 ⟨en, hen, henl, hRd4, hC4, a0, a1, a2, hT, hlt4, k1, k2, k3, k5, k7, k27, k28, k29, hdf⟩
          simp only at k1 k2 k3 k5 k7 k27 k28 k29 hdf
          subst hdf
          simp only [enC] at hT
          simp (disch := first | omega | (simp only [hN] <;> omega) | fail) only [go_sem, simprocAttr, k1, k2, k3, k5, k7, k27, k28, k29, hT]
          have hle := left_le (k := k)
          refine come_spec hI (fun f hf => (hFs f hf).2.2) hff.1 henl hsm (c.body.length + 1) hRd4 hC4 (show IntsC H4 [] .nilSlice from ⟨.nil, .inl rfl⟩) LoV.nil hkl (by omega) ?_
          rw [← hen] at hfp
          cases hc : comeP c f f.start en (c.body.length + 1) f.start [] k with
          | none =>
            rw [hc] at hfp
            intro h5 hf5
            have hF5 : Fr h.n h h5 := (hRd4.fr3 hf5).fr
            have q1 := (hf5.2 (h.n + 1) (by omega) (by omega) (by omega)).trans a1
            have q2 := (hf5.2 (h.n + 1 + 1) (by omega) (by omega) (by omega)).trans a2
            have q3 := hf5.1
            simp (disch := first | omega | (simp only [hN] <;> omega) | fail) only [go_sem, simprocAttr, k1, k2, k3, k5, List.nil_append]
            refine hpan h5 hF5 (by omega) q1 q2 hfp.symm _ ?_
            rintro h' ⟨v1, w1⟩ ⟨v2, w2⟩ hq
            simp (disch := first | omega | (simp only [hN] <;> omega) | fail) only [go_sem, simprocAttr, k1, k2, k3, w1, w2]
            exact hq
          | some k' =>
            rw [hc] at hfp
            simp only [Option.bind_some] at hfp
            have hlc := comeP_left _ (by rw [hkl]; exact henl) hff.1 hc
            intro h5 hf5 hC5
            have q0 := (hf5.2 h.n (by omega) (by omega) (by omega)).trans a0
            have q1 := (hf5.2 (h.n + 1) (by omega) (by omega) (by omega)).trans a1
            have q2 := (hf5.2 (h.n + 1 + 1) (by omega) (by omega) (by omega)).trans a2
            simp (disch := first | omega | (simp only [hN] <;> omega) | fail) only [go_sem, simprocAttr, k1, k2, k3, k5, k7, k27, k28, k29, iN]
            refine ⟨c.funcs.length - (i + 1), by omega, i + 1, k', f, f.start, en, rfl, hil, hRd4.fr3 hf5, hC5, hlc.1.trans hkl, q0, q1, q2, hfp, ?_⟩
            simp (disch := first | omega | (simp only [hN] <;> omega) | fail) only [go_sem, simprocAttr]
      · have i2 : decide ((i : Int) < (c.funcs.length : Int)) = false := decide_eq_false (by omega)
        simp (disch := first | omega | (simp only [hN] <;> omega) | fail) only [go_sem, simprocAttr, k1, k2, k3, k5, k27, k28, k29, i2]
        refine ⟨k, fn, st, en, hRd, hCm, hkl, a0, a1, a2, ?_⟩
        rw [← hfp, List.drop_of_length_le (by omega)]
        rfl
    · rintro ⟨t, df⟩ h2 ⟨k, fn, st, en, hRd, hCm, hkl, a0, a1, a2, hRk, k1, k2, k3, k5, hdf⟩
      simp only at k1 k2 k3 k5 hdf
      subst hdf
      subst hRk
      have hsk := funcsP_small none_small hR
      simp only [Option.map_some] at hQ
      obtain ⟨o1, o2, o3, n1, n2, hi', hfr, ver, pv', chv', fv', bv', lv', hr, hcd, hl'⟩ := hRd
      have hfn := hfr.n
      simp only [cdC, enC, List.cons_append, List.nil_append] at hr
      obtain ⟨q1, q2, q3, q4, qS, vM, q8⟩ := hCm
      clear hpan hR hR0 hC0 hcd hl' q8
      simp (disch := first | omega | (simp only [hN] <;> omega) | fail) only [go_sem, simprocAttr, k1, k2, k3, k5, hr]
      refine wp_loopx 2 (fun m a h' => ∃ i : Nat, m = c.body.length - i ∧ i ≤ c.body.length ∧ a.tm.get 2 = some (.ptr (h.n + 1) 0) ∧ a.tm.get 3 = some (.ptr (h.n + 1 + 1) 0) ∧ a.tm.get 5 = some (.ptr (B + 1 + 1) 0) ∧ a.tm.get 74 = some (.int .i64 (c.body.length : Int)) ∧ a.tm.get 75 = some (.int .i64 (i : Int)) ∧ a.df = [(16, [.ptr (h.n + 1) 0, .ptr (h.n + 1 + 1) 0])] ∧ (∃ ver, h'.get (B + 1 + 1) = some ⟨ver, .cells .own 0 [pv', .int .i64 c.mutexes, .int .i64 c.atomics, chv', fv', .int .i64 c.main, bv', .int .i64 fn.start, .int .i64 fn.params, lv', .int .i64 st, .int .i64 en, .slice B 0 c.body.length c.body.length true, .slice (B + 1) 0 c.body.length c.body.length true]⟩) ∧ Fr h.n h h' ∧ B + 3 ≤ h'.n ∧ h'.get (h.n + 1) = some ⟨0, .cells .own 0 [.nilSlice]⟩ ∧ h'.get (h.n + 1 + 1) = some ⟨0, .cells .own 0 [.nilIface]⟩ ∧ ∃ ver svs, h'.get B = some ⟨ver, .cells .own 1 svs⟩ ∧ svs.length = k.length ∧ ∀ (j : Nat) (x : Option (List Int)) (v : AV), k[j]? = some x → svs[j]? = some v → IntsC h' (x.getD []) v ∧ LoV (B + 3) v)
        (fun a h' => a.tm.get 2 = some (.ptr (h.n + 1) 0) ∧ a.tm.get 3 = some (.ptr (h.n + 1 + 1) 0) ∧ a.tm.get 5 = some (.ptr (B + 1 + 1) 0) ∧ a.df = [(16, [.ptr (h.n + 1) 0, .ptr (h.n + 1 + 1) 0])] ∧ (∃ ver, h'.get (B + 1 + 1) = some ⟨ver, .cells .own 0 [pv', .int .i64 c.mutexes, .int .i64 c.atomics, chv', fv', .int .i64 c.main, bv', .int .i64 fn.start, .int .i64 fn.params, lv', .int .i64 st, .int .i64 en, .slice B 0 c.body.length c.body.length true, .slice (B + 1) 0 c.body.length c.body.length true]⟩) ∧ Fr h.n h h' ∧ B + 3 ≤ h'.n ∧ h'.get (h.n + 1) = some ⟨0, .cells .own 0 [.nilSlice]⟩ ∧ h'.get (h.n + 1 + 1) = some ⟨0, .cells .own 0 [.nilIface]⟩ ∧ ∃ ver svs, h'.get B = some ⟨ver, .cells .own 1 svs⟩ ∧ svs.length = k.length ∧ ∀ (j : Nat) (x : Option (List Int)) (v : AV), k[j]? = some x → svs[j]? = some v → IntsC h' (x.getD []) v ∧ LoV (B + 3) v) ?_ ?_ c.body.length ?_
      · clear k1 k2 k3 k5 hr a0 a1 a2 qS hfr hfn hi' q1
        rintro m ⟨t, df⟩ h3 ⟨i, hm, hi, k2, k3, k5, k74, k75, hdf, ⟨vR, hr⟩, hfr, hB3, a1, a2, vS, svs, q5, q6, q7⟩
        simp only at k2 k3 k5 k74 k75 hdf
        subst hdf
        have hfn := hfr.n
        by_cases hil : i < c.body.length
        · have i1 : ((i : Int) < (c.body.length : Int)) = True := by simp [hil]
          have i2 : decide ((i : Int) < (c.body.length : Int)) = true := decide_eq_true (by omega)
          have iN : ((i : Int) + 1) = ((i + 1 : Nat) : Int) := by omega
          have hki : k[i]? = some k[i] := List.getElem?_eq_getElem (by omega)
          have hsi : svs[i]? = some svs[i] := List.getElem?_eq_getElem (by omega)
          obtain ⟨w1, w2⟩ := q7 i _ _ hki hsi
          have hln : (k[i].getD []).length < 2 ^ 36 := by
            cases hx : k[i] with
            | none => simp
            | some l =>
              have := hsk i l (by rw [hki, hx])
              simp only [Option.getD_some]
              omega
          have wf := w1.1.flat
          have q9 : i < svs.length := by omega
          generalize svs[i] = sv at *
          generalize k[i] = ki at *
          simp (disch := first | omega | (simp only [hN] <;> omega) | fail) only [go_sem, simprocAttr, k2, k3, k5, k74, k75, i1, i2, hr, q5, hsi, Int.toNat_natCast, Nat.mul_one, wf.1, wf.2]
          refine clone_spec' w1.1 hln ?_
          intro h4 u hf4 hu
          have hn4 := hf4.n; try simp only [hN] at hn4
          have hr4 := (hf4.all (b := B + 1 + 1) (by omega)).trans hr
          have q54 := (hf4.all (b := B) (by omega)).trans q5
          have huC := hu.intsC (Nat.lt_trans hln (by decide))
          have huL := hu.lov (lo' := B + 3) (by omega)
          have uf := huC.1.flat
          have l1 : lay svs i [u] = some (svs.set i u) := lay_one q9
          simp (disch := first | omega | (simp only [hN] <;> omega) | fail) only [go_sem, simprocAttr, k2, k3, k5, k74, k75, i1, hr, q5, hr4, q54, l1, Int.toNat_natCast, Nat.mul_one, uf.1, uf.2, iN]
          have a1' := (hf4.all (b := h.n + 1) (by omega)).trans a1
          have a2' := (hf4.all (b := h.n + 1 + 1) (by omega)).trans a2
          have hkeep : ∀ {l : List Int} {w : AV}, IntsC h4 l w → LoV (B + 3) w → IntsC (h4.upd B (vS + 1) (.cells .own 1 (svs.set i u))) l w := fun a b => lov_keep a b (Nat.le_refl _) fun x hx _ => by rw [AHeap.get_upd, if_neg (by omega)]
          refine ⟨c.body.length - (i + 1), by omega, i + 1, rfl, hil, rfl, ⟨vR, rfl⟩, (hfr.trans (hf4.any (by omega))).updNew (by omega) _ _, by omega, a1', a2', vS + 1, svs.set i u, rfl, by simp [q6], ?_⟩
          intro j x w e1 e2
          rw [List.getElem?_set] at e2
          by_cases e : i = j
          · subst e
            rw [if_pos rfl, if_pos q9] at e2
            rw [hki] at e1
            cases e1; cases e2
            exact ⟨hkeep huC huL, huL⟩
          · rw [if_neg e] at e2
            obtain ⟨y1, y2⟩ := q7 j x w e1 e2
            exact ⟨hkeep (y1.fr hf4) y2, y2⟩
        · have i2 : decide ((i : Int) < (c.body.length : Int)) = false := decide_eq_false (by omega)
          simp (disch := first | omega | (simp only [hN] <;> omega) | fail) only [go_sem, simprocAttr, k2, k3, k5, k74, k75, i2]
          exact ⟨⟨vR, hr⟩, hfr, hB3, a1, a2, vS, svs, q5, q6, q7⟩
      · clear k1 k2 k3 k5 hr a0 a1 a2 qS hfr hfn hi' q1
        rintro ⟨t, df⟩ h3 ⟨k2, k3, k5, hdf, ⟨vR, hr⟩, hfr, hB3, a1, a2, vS, svs, q5, q6, q7⟩
        simp only at k2 k3 k5 hdf
        subst hdf
        have hfn := hfr.n
        simp (disch := first | omega | (simp only [hN] <;> omega) | fail) only [go_sem, simprocAttr, k2, k3, k5, hr, a1, a2]
        refine wrec_ret ?_
        simp (disch := first | omega | (simp only [hN] <;> omega) | fail) only [go_sem, simprocAttr, k2, k3, k5]
        have hml : (k.map fun x => x.getD []).length = c.body.length := by rw [List.length_map]; exact hkl
        refine hQ _ _ ?_ ⟨svs, by rw [hml]; exact slv_of (ver := vS) (by omega) (by rw [q6]; exact hkl) (by simp (disch := first | omega | (simp only [hN] <;> omega) | fail) only [go_sem, simprocAttr]; omega) (by simp (disch := first | omega | (simp only [hN] <;> omega) | fail) only [go_sem, simprocAttr, q5]), fun i l w e1 e2 => ?_⟩
        · exact (hfr.updNew (by omega) _ _).updNew (by omega) _ _
        · rw [List.getElem?_map] at e1
          obtain ⟨x, e3, e4⟩ := Option.map_eq_some_iff.1 e1
          subst e4
          obtain ⟨y1, y2⟩ := q7 i x w e3 e2
          exact (lov_keep y1 y2 (by simp (disch := first | omega | (simp only [hN] <;> omega) | fail) only [go_sem, simprocAttr]; exact Nat.le_refl _) fun b hb hbn => by simp (disch := first | omega | (simp only [hN] <;> omega) | fail) only [go_sem, simprocAttr]).1
      · refine ⟨0, rfl, Nat.zero_le _, ?_⟩
        simp (disch := first | omega | (simp only [hN] <;> omega) | fail) only [go_sem, simprocAttr, k2, k3, k5]
        exact ⟨⟨ver, hr⟩, hfr, q1, a1, a2, qS⟩
    · simp (disch := first | omega | (simp only [hN] <;> omega) | fail) only [go_sem, simprocAttr, l3]
      exact ⟨0, _, _, _, _, rfl, Nat.zero_le _, hR0, hC0, by simp, e0, e1, e2, hR, rfl, rfl⟩
end Go.Ev
/- Proofread: Check, Deep; the chapter's examples. -/
namespace Go.Ev
open Go
set_option maxRecDepth 100000
set_option maxHeartbeats 4000000

theorem pcheck_spec {h : AHeap} {c : Cd} {pv chv fv bv : AV} (hG : GH h) (hC : CdV h c pv chv fv bv) {Q : QR} (hQ : ∀ h', Fr h.n h h' → Q (.ret (if (stacksP c).isSome then .nilIface else errAV 9)) h') : WF F 11 [.agg (cdC c pv chv fv bv)] h Q := by
  refine WF.code F11 rfl ?_
  obtain ⟨f1, f2, f3, f4⟩ := hC.flats
  simp (disch := first | omega | (simp only [hN] <;> omega) | fail) only [go_sem, simprocAttr, cdC, f1.1, f1.2, f2.1, f2.2, f3.1, f3.2, f4.1, f4.2]
  have hF0 : Fr h.n h (h.alloc (.cells .own 0 (cdC c pv chv fv bv))) := (Fr.refl _ _).alloc _
  refine stacks_spec (hG.alloc _) (hC.fr hF0) ?_
  cases hs : stacksP c with
  | none =>
    rw [hs] at hQ
    intro h1 hf1
    simp (disch := first | omega | (simp only [hN] <;> omega) | fail) only [go_sem, simprocAttr]
    exact hQ _ (hF0.trans (hf1.any (Nat.le_refl _)))
  | some ls =>
    rw [hs] at hQ
    intro h1 v hf1 hv
    simp (disch := first | omega | (simp only [hN] <;> omega) | fail) only [go_sem, simprocAttr]
    exact hQ _ (hF0.trans (hf1.any (Nat.le_refl _)))
/-- How long the longest is. -/
def deepP (ls : List (List Int)) : Nat := ls.foldl (fun n s => max n s.length) 0
theorem pdeep_spec {h : AHeap} {c : Cd} {pv chv fv bv : AV} (hG : GH h) (hC : CdV h c pv chv fv bv) {Q : QR} (hQ : match stacksP c with
    | none => ∀ h', Fr h.n h h' → Q (.ret (.tuple [.int .i64 0, errAV 9])) h'
    | some ls => ∀ h', Fr h.n h h' → Q (.ret (.tuple [.int .i64 (deepP ls : Int), .nilIface])) h') : WF F 12 [.agg (cdC c pv chv fv bv)] h Q := by
  refine WF.code F12 rfl ?_
  obtain ⟨f1, f2, f3, f4⟩ := hC.flats
  simp (disch := first | omega | (simp only [hN] <;> omega) | fail) only [go_sem, simprocAttr, cdC, f1.1, f1.2, f2.1, f2.2, f3.1, f3.2, f4.1, f4.2]
  have hF0 : Fr h.n h (h.alloc (.cells .own 0 (cdC c pv chv fv bv))) := (Fr.refl _ _).alloc _
  refine stacks_spec (hG.alloc _) (hC.fr hF0) ?_
  cases hs : stacksP c with
  | none =>
    rw [hs] at hQ
    intro h1 hf1
    simp (disch := first | omega | (simp only [hN] <;> omega) | fail) only [go_sem, simprocAttr]
    refine wp_loop (fun n a h' => h' = h1 ∧ a.tm.get 5 = some (errAV 9) ∧ a.tm.get 6 = some (.int .i64 0) ∧ a.tm.get 15 = some (.int .i64 0) ∧ a.tm.get 16 = some (.int .i64 0) ∧ a.df = []) ?_ 0 ?_
    · rintro n ⟨t, df⟩ h2 ⟨rfl, k5, k6, k15, k16, hdf⟩
      simp only at k5 k6 k15 k16 hdf
      subst hdf
      simp (disch := first | omega | (simp only [hN] <;> omega) | fail) only [go_sem, simprocAttr, k5, k6, k15, k16]
      exact hQ _ (hF0.trans (hf1.any (Nat.le_refl _)))
    · simp (disch := first | omega | (simp only [hN] <;> omega) | fail) only [go_sem, simprocAttr]
  | some ls =>
    rw [hs] at hQ
    intro h1 v hf1 hv
    obtain ⟨svs, hsl, hsv⟩ := hv
    have hsm := hsl.small
    simp (disch := first | omega | (simp only [hN] <;> omega) | fail) only [go_sem, simprocAttr, hsl.len, hsl.flat.1, hsl.flat.2]
    refine wp_loop (fun n a h' => ∃ i : Nat, n = ls.length - i ∧ i ≤ ls.length ∧ h' = h1 ∧ a.tm.get 5 = some .nilIface ∧ a.tm.get 6 = some (.int .i64 (deepP (ls.take i) : Int)) ∧ a.tm.get 14 = some v ∧ a.tm.get 15 = some (.int .i64 (ls.length : Int)) ∧ a.tm.get 16 = some (.int .i64 (i : Int)) ∧ a.df = []) ?_ ls.length ?_
    · rintro n ⟨t, df⟩ h2 ⟨i, hn, hi, rfl, k5, k6, k14, k15, k16, hdf⟩
      simp only at k5 k6 k14 k15 k16 hdf
      subst hdf
      by_cases hil : i < ls.length
      · obtain ⟨b, o, cp, ex, ver, md, bs, rfl, hb, hg, hrw⟩ := hsl.inv (by omega)
        have hcl := hsl.clen
        have hsi : svs[i]? = some svs[i] := List.getElem?_eq_getElem (by omega)
        have hbi : bs[o + i]? = some svs[i] := by rw [row_get hrw (by omega)]; exact hsi
        have hw := hsv i _ _ (List.getElem?_eq_getElem hil) hsi
        have hwl := hw.len
        have hwf := hw.flat
        have i1 : ((i : Int) < (ls.length : Int)) = True := by simp [hil]
        have i2 : decide ((i : Int) < (ls.length : Int)) = true := decide_eq_true (by omega)
        have iN : ((i : Int) + 1) = ((i + 1 : Nat) : Int) := by omega
        have hd : deepP (ls.take (i + 1)) = max (deepP (ls.take i)) ls[i].length := by
          unfold deepP
          rw [List.take_add_one, List.getElem?_eq_getElem hil, List.foldl_append]
          rfl
        have hmx : mxA true (.int .i64 (deepP (ls.take i) : Int)) [.int .i64 (ls[i].length : Int)] = some (.int .i64 (deepP (ls.take (i + 1)) : Int)) := by
          rw [hd]
          simp only [mxA, cond_true]
          by_cases e : (ls[i].length : Int) > (deepP (ls.take i) : Int)
          · rw [decide_eq_true e, cond_true, Nat.max_eq_right (by omega)]
          · rw [decide_eq_false e, cond_false, Nat.max_eq_left (by omega)]
        generalize svs[i] = sv at *
        simp (disch := first | omega | (simp only [hN] <;> omega) | fail) only [go_sem, simprocAttr, k5, k6, k14, k15, k16, i1, i2, hg, hbi, Int.toNat_natCast, Nat.mul_one, hwf.1, hwf.2, hwl, hmx, iN]
        refine ⟨ls.length - (i + 1), by omega, i + 1, rfl, hil, ?_⟩
        simp (disch := first | omega | (simp only [hN] <;> omega) | fail) only [go_sem, simprocAttr]
      · have i2 : decide ((i : Int) < (ls.length : Int)) = false := decide_eq_false (by omega)
        rw [List.take_of_length_le (by omega)] at k6
        simp (disch := first | omega | (simp only [hN] <;> omega) | fail) only [go_sem, simprocAttr, k5, k6, k14, k15, k16, i2]
        exact hQ _ (hF0.trans (hf1.any (Nat.le_refl _)))
    · simp (disch := first | omega | (simp only [hN] <;> omega) | fail) only [go_sem, simprocAttr, hsl.len]
      exact ⟨0, rfl, Nat.zero_le _, rfl, rfl⟩
theorem slv_row {h : AHeap} {es b ver n c : Nat} {ex : Bool} {css : List AV} (h0 : 0 < n) (hn : n < 2 ^ 61) (hl : css.length = n * es) (hb : b < h.n) (hg : h.get b = some ⟨ver, .cells .own es css⟩) : SlV h es n css (.slice b 0 n c ex) := .row h0 hn hb hg (row_all hl)
/-- A code of one function. -/
def oneC (body : List Ins) : Cd := ⟨[], 0, 0, [], [⟨0, 0, []⟩], 0, body⟩
theorem cdv_one {h : AHeap} {c : Cd} {pv v : AV} {b ver : Nat} (hf : c.funcs = [⟨0, 0, []⟩]) (hc : c.chans = []) (hp : IntsC h c.places pv) (hv : SlV h 5 c.body.length (c.body.flatMap insC) v) (hb : b < h.n) (hg : h.get b = some ⟨ver, .cells .own 3 [.int .i64 0, .int .i64 0, .nilSlice]⟩) : CdV h c pv .nilSlice (.slice b 0 1 1 true) v := by
  refine ⟨hp, ?_, ⟨[.int .i64 0, .int .i64 0, .nilSlice], ?_, ?_⟩, hv⟩
  · rw [hc]; exact .nil
  · rw [hf]; exact EnsV.cons (f := ⟨0, 0, []⟩) (lv := .nilSlice) (css := []) ⟨.nil, .inl rfl⟩ .nil
  · rw [hf]; exact slv_row (ver := ver) (by decide) (by decide) rfl hb hg
theorem one_spec {h : AHeap} {body : List Ins} {v : AV} (hv : SlV h 5 body.length (body.flatMap insC) v) {Q : QR} (hQ : ∀ h' fv, Fr h.n h h' → CdV h' (oneC body) .nilSlice .nilSlice fv v → Q (.ret (.agg (cdC (oneC body) .nilSlice .nilSlice fv v))) h') : WF F 14 [v] h Q := by
  refine WF.code F14 rfl ?_
  simp (disch := first | omega | (simp only [hN] <;> omega) | fail) only [go_sem, simprocAttr, hv.flat.1, hv.flat.2]
  refine hQ _ _ ?_ (cdv_one (ver := 0) rfl rfl ⟨.nil, .inl rfl⟩ (hv.keep ?_ fun b _ _ _ hb _ => ?_) ?_ ?_)
  · exact ⟨by first | omega | (simp only [hN]; omega), fun b hb hne => by (try simp only [hN] at hb hne); simp (disch := first | omega | (simp only [hN] <;> omega) | fail) only [go_sem, simprocAttr]⟩
  · simp only [hN]; omega
  · simp (disch := first | omega | (simp only [hN] <;> omega) | fail) only [go_sem, simprocAttr]
  · simp only [hN]; omega
  · simp (disch := first | omega | (simp only [hN] <;> omega) | fail) only [go_sem, simprocAttr]
theorem s_ok1 : (stacksP (oneC [⟨24, 0, 0, 0, 0⟩, ⟨12, 0, 0, 0, 0⟩])).isSome = true := by decide
theorem s_ok2 : (stacksP (oneC [⟨12, 0, 0, 0, 0⟩])).isSome = false := by decide
theorem s_ok3 : (stacksP (oneC [⟨1, 1, 0, 0, 0⟩, ⟨25, 0, 0, 0, 0⟩])).isSome = false := by decide
theorem alive_spec {h : AHeap} (hG : GH h) {Q : QR} (hQ : ∀ h', Fr h.n h h' → Q (.ret (.bool true)) h') : WF F 6 [] h Q := by
  refine WF.code F6 rfl ?_
  have hGn := hG.n
  simp (disch := first | omega | (simp only [hN] <;> omega) | fail) only [go_sem, simprocAttr, List.append_nil, List.nil_append]
  refine one_spec (body := [⟨24, 0, 0, 0, 0⟩, ⟨12, 0, 0, 0, 0⟩]) (slv_row (ver := 0) (by decide) (by decide) rfl (Nat.lt_succ_self _) (by (first | (simp (disch := first | omega | (simp only [hN] <;> omega) | fail) only [go_sem, simprocAttr]; done) | (simp (disch := first | omega | (simp only [hN] <;> omega) | fail) only [go_sem, simprocAttr]; rfl)))) ?_
  intro h1 fv hf1 hC1
  have hn1 := hf1.n; try simp only [hN] at hn1
  have hf1' : Fr h.n h h1 := (Fr.alloc (Fr.refl _ _) _).trans (hf1.any (Nat.le_refl _))
  have hG1 := hf1'.gh hGn hG
  simp (disch := first | omega | (simp only [hN] <;> omega) | fail) only [go_sem, simprocAttr]
  refine pcheck_spec hG1 hC1 ?_
  intro h2 hf2
  have hn2 := hf2.n; try simp only [hN] at hn2
  rw [s_ok1, if_pos rfl]
  have hf2' := hf1'.trans (hf2.any (by omega))
  have hG2 := hf2'.gh hGn hG
  simp (disch := first | omega | (simp only [hN] <;> omega) | fail) only [go_sem, simprocAttr, List.append_nil, List.nil_append, eqT_nil]
  refine one_spec (body := [⟨12, 0, 0, 0, 0⟩]) (slv_row (ver := 0) (by decide) (by decide) rfl (Nat.lt_succ_self _) (by (first | (simp (disch := first | omega | (simp only [hN] <;> omega) | fail) only [go_sem, simprocAttr]; done) | (simp (disch := first | omega | (simp only [hN] <;> omega) | fail) only [go_sem, simprocAttr]; rfl)))) ?_
  intro h3 fv3 hf3a hC3
  have hn3a := hf3a.n; try simp only [hN] at hn3a
  have hf3a' : Fr h.n h h3 := hf2'.trans (((Fr.refl h.n _).alloc _).trans (hf3a.any (Nat.le_refl _)))
  have hG3a := hf3a'.gh hGn hG
  simp (disch := first | omega | (simp only [hN] <;> omega) | fail) only [go_sem, simprocAttr]
  refine pcheck_spec hG3a hC3 ?_
  intro h4 hf3b
  have hn3b := hf3b.n; try simp only [hN] at hn3b
  have hok3 := s_ok2
  rw [hok3, if_neg (by decide)]
  have hf3b' := hf3a'.trans (hf3b.any (by omega))
  have hG3b := hf3b'.gh hGn hG
  simp (disch := first | omega | (simp only [hN] <;> omega) | fail) only [go_sem, simprocAttr]
  refine num_spec hG3b (by decide) (by decide) ?_
  intro h4n hf3
  have hn3 := hf3.n; try simp only [hN] at hn3
  have hf3' := hf3b'.trans (hf3.any (by omega))
  have hG3 := hf3'.gh hGn hG
  simp (disch := first | omega | (simp only [hN] <;> omega) | fail) only [go_sem, simprocAttr, List.append_nil, List.nil_append]
  refine one_spec (body := [⟨1, 1, 0, 0, 0⟩, ⟨25, 0, 0, 0, 0⟩]) (slv_row (ver := 0) (by decide) (by decide) rfl (Nat.lt_succ_self _) (by (first | (simp (disch := first | omega | (simp only [hN] <;> omega) | fail) only [go_sem, simprocAttr]; done) | (simp (disch := first | omega | (simp only [hN] <;> omega) | fail) only [go_sem, simprocAttr]; rfl)))) ?_
  intro h5 fv5 hf5a hC5
  have hn5a := hf5a.n; try simp only [hN] at hn5a
  have hf5a' : Fr h.n h h5 := hf3'.trans (((Fr.refl h.n _).alloc _).trans (hf5a.any (Nat.le_refl _)))
  have hG5a := hf5a'.gh hGn hG
  simp (disch := first | omega | (simp only [hN] <;> omega) | fail) only [go_sem, simprocAttr]
  refine pcheck_spec hG5a hC5 ?_
  intro h6 hf5b
  have hn5b := hf5b.n; try simp only [hN] at hn5b
  have hok5 := s_ok3
  rw [hok5, if_neg (by decide)]
  have hf5b' := hf5a'.trans (hf5b.any (by omega))
  have hG5b := hf5b'.gh hGn hG
  simp (disch := first | omega | (simp only [hN] <;> omega) | fail) only [go_sem, simprocAttr]
  refine num_spec hG5b (by decide) (by decide) ?_
  intro h6n hf5
  have hn5 := hf5.n; try simp only [hN] at hn5
  have hf5' := hf5b'.trans (hf5.any (by omega))
  have hG5 := hf5'.gh hGn hG
  simp (disch := first | omega | (simp only [hN] <;> omega) | fail) only [go_sem, simprocAttr]
  exact hQ _ hf5'
end Go.Ev
/- Proofread: slices that grow; the statement on jumps back. -/
namespace Go.Ev
open Go
set_option maxRecDepth 100000
set_option maxHeartbeats 4000000

/-- A slice that grows at its end alone: so many elements, their cells. -/
def Sl (es lo : Nat) (h : AHeap) (v : AV) (n : Nat) (cs : List AV) : Prop :=
  cs.length = n * es ∧ ((n = 0 ∧ v = .nilSlice) ∨ (0 < n ∧ ∃ b ver, v = .slice b 0 n n false ∧ lo ≤ b ∧ b < h.n ∧ h.get b = some ⟨ver, .cells .own es cs⟩))
theorem Sl.nil {es lo : Nat} {h : AHeap} : Sl es lo h .nilSlice 0 [] := ⟨by simp, .inl ⟨rfl, rfl⟩⟩
theorem Sl.fr {es lo r n : Nat} {h h' : AHeap} {v : AV} {cs : List AV} (s : Sl es lo h v n cs) (f : Fr r h h') (hr : r < lo ∨ h.n ≤ r) : Sl es lo h' v n cs := by
  obtain ⟨hl, s⟩ := s
  refine ⟨hl, s.imp id ?_⟩
  rintro ⟨hn, b, ver, e, h1, h2, h3⟩
  exact ⟨hn, b, ver, e, h1, Nat.lt_of_lt_of_le h2 f.n, by rw [f.old b h2 (by omega)]; exact h3⟩
theorem Sl.flat {es lo n : Nat} {h : AHeap} {v : AV} {cs : List AV} (s : Sl es lo h v n cs) : v.flat = true ∧ v.cells = [v] := by
  obtain ⟨_, ⟨_, rfl⟩ | ⟨_, b, ver, rfl, _⟩⟩ := s <;> exact ⟨rfl, rfl⟩
theorem Sl.len {es lo n : Nat} {h : AHeap} {v : AV} {cs : List AV} (s : Sl es lo h v n cs) : lenA v = some (n : Int) := by
  obtain ⟨_, ⟨h1, rfl⟩ | ⟨_, b, ver, rfl, _⟩⟩ := s
  · rw [h1]; rfl
  · rfl
theorem Sl.lo {es lo lo' n : Nat} {h : AHeap} {v : AV} {cs : List AV} (s : Sl es lo h v n cs) (hl : lo' ≤ lo) : Sl es lo' h v n cs := by
  obtain ⟨h0, s⟩ := s
  refine ⟨h0, s.imp id ?_⟩
  rintro ⟨hn, b, ver, e, h1, h2⟩
  exact ⟨hn, b, ver, e, Nat.le_trans hl h1, h2⟩
theorem Sl.append {es lo n k bytes : Nat} {h : AHeap} {v : AV} {cs new : List AV} (s : Sl es lo h v n cs) (hk : 0 < k) (hlo : lo ≤ h.n) (hnew : new.length = k * es) (hflat : allFlat new = true) (hroom : (n + k) * bytes ≤ room) (hn : n + k ≤ room) (hkr : k * bytes ≤ room) :
    ∃ v' h', appendA h es bytes v k new = some (v', h') ∧ Sl es lo h' v' (n + k) (cs ++ new) ∧ h'.n = h.n + 1 ∧ ∀ b, b < lo → h'.get b = h.get b := by
  have k0 : ¬ k = 0 := by omega
  obtain ⟨hl, ⟨rfl, rfl⟩ | ⟨hpos, b, ver, rfl, h1, h2, h3⟩⟩ := s
  · have hcs : cs = [] := List.length_eq_zero_iff.1 (by simpa using hl)
    subst hcs
    refine ⟨.slice h.n 0 k k false, h.alloc (.cells .own es new), ?_, ⟨by simp [hnew], .inr ⟨by omega, h.n, 0, by rw [Nat.zero_add], hlo, by rw [AHeap.alloc_n]; omega, by rw [AHeap.get_alloc, if_pos rfl]; rfl⟩⟩, rfl, fun b hb => by rw [AHeap.get_alloc, if_neg (by omega)]⟩
    simp only [appendA, hnew, hflat, beq_nat, ble_nat, decide_true, Bool.not_true, Bool.or_false, cond_false, k0, decide_false, cond_true]
    rw [decide_eq_true (show k ≤ room by omega), decide_eq_true hkr]
    rfl
  · have hrow : row cs 0 (n * es) = some cs := row_all hl
    refine ⟨.slice h.n 0 (n + k) (n + k) false, (h.upd b (ver + 1) .dead).alloc (.cells .own es (cs ++ new)), ?_, ⟨by rw [List.length_append, hl, hnew, Nat.add_mul], .inr ⟨by omega, h.n, 0, rfl, by omega, by rw [AHeap.alloc_n, AHeap.upd_n]; omega, by rw [AHeap.get_alloc, AHeap.upd_n, if_pos rfl]⟩⟩, rfl, fun b' hb => by rw [AHeap.get_alloc, AHeap.upd_n, if_neg (by omega), AHeap.get_upd, if_neg (by omega)]⟩
    have e1 : ¬ n + k ≤ n := by omega
    have e2 : ¬ n = 0 := by omega
    simp only [appendA, h3, hnew, hflat, hrow, beq_nat, ble_nat, decide_true, Bool.not_true, Bool.or_false, cond_false, k0, decide_false, cond_true, e1, e2, decide_eq_true hroom, decide_eq_true hn, Bool.and_true]
theorem Sl.slv {es lo n : Nat} {h : AHeap} {v : AV} {cs : List AV} (s : Sl es lo h v n cs) (hn : n < 2 ^ 61) : SlV h es n cs v := by
  obtain ⟨hl, ⟨rfl, rfl⟩ | ⟨hpos, b, ver, rfl, h1, h2, h3⟩⟩ := s
  · have hcs : cs = [] := List.length_eq_zero_iff.1 (by simpa using hl)
    rw [hcs]; exact .nil
  · exact slv_row hpos hn hl h2 h3
theorem wr_nn (p : Int) : 0 ≤ wr .u64 p := by
  unfold wr
  cases hf : fits .u64 p with
  | true => simp [fits] at hf; exact hf.1
  | false =>
    show 0 ≤ IntKind.wrap .u64 p
    simp only [IntKind.wrap]
    have : IntKind.signed .u64 = false := rfl
    rw [this]
    simp only [Bool.false_and, Bool.false_eq_true, if_false]
    exact Int.emod_nonneg _ (by decide)
theorem wrapN (p : Int) (m : Nat) (h0 : 0 < m) (hm : m < 2 ^ 62) : ∃ i : Nat, i < m ∧ wr .i64 ((wr .u64 p).tmod (m : Int)) = (i : Int) := by
  have h := wr_nn p
  generalize wr .u64 p = x at h
  rw [Int.tmod_eq_emod_of_nonneg h]
  have h1 := Int.emod_nonneg x (b := (m : Int)) (by omega)
  have h2 := Int.emod_lt_of_pos x (b := (m : Int)) (by omega)
  refine ⟨(x % (m : Int)).toNat, by omega, ?_⟩
  rw [wr_i64 (by omega) (by omega)]
  omega
end Go.Ev
