/- Proofread: slices, and the stacks' small functions. -/
import Derived.Test.YtjfagfoekpnofaaDoorPRw
set_option linter.all false
set_option linter.unusedVariables false
set_option linter.unusedSimpArgs false
namespace Go.Ev
open Go
set_option maxRecDepth 100000
set_option maxHeartbeats 4000000

theorem row_mk {vs : List AV} {o n : Nat} (h : o + n ≤ vs.length) : row vs o n = some ((vs.drop o).take n) := by
  unfold row; rw [ble_nat, decide_eq_true h]; rfl
theorem row_inv {vs cs : List AV} {o n : Nat} (h : row vs o n = some cs) : o + n ≤ vs.length ∧ cs = (vs.drop o).take n := by
  unfold row at h
  rw [ble_nat] at h
  by_cases e : o + n ≤ vs.length
  · rw [decide_eq_true e] at h; exact ⟨e, (Option.some.inj h).symm⟩
  · rw [decide_eq_false e] at h; cases h
theorem row_len {vs cs : List AV} {o n : Nat} (h : row vs o n = some cs) : cs.length = n := by
  obtain ⟨h1, rfl⟩ := row_inv h
  rw [List.length_take, List.length_drop]; omega
theorem row_all {vs : List AV} {n : Nat} (h : vs.length = n) : row vs 0 n = some vs := by
  rw [row_mk (by omega), List.drop_zero, List.take_of_length_le (by omega)]
theorem row_sub {vs cs : List AV} {o n i k : Nat} (h : row vs o n = some cs) (hk : i + k ≤ n) : row vs (o + i) k = row cs i k := by
  have hl := row_len h
  obtain ⟨h1, rfl⟩ := row_inv h
  rw [row_mk (by omega), row_mk (by omega), List.drop_take, List.take_take, List.drop_drop, Nat.min_eq_left (by omega)]
theorem row_get {vs cs : List AV} {o n i : Nat} (h : row vs o n = some cs) (hi : i < n) : vs[o + i]? = cs[i]? := by
  obtain ⟨h1, rfl⟩ := row_inv h
  rw [List.getElem?_take, if_pos hi, List.getElem?_drop]
/-- A slice of elements of a size, as it reads. -/
inductive SlV (h : AHeap) (es : Nat) : Nat → List AV → AV → Prop where
  | nil : SlV h es 0 [] .nilSlice
  | emp {b o c : Nat} {ex : Bool} : SlV h es 0 [] (.slice b o 0 c ex)
  | row {n b o c ver : Nat} {ex : Bool} {md : Md} {bs css : List AV} : 0 < n → n < 2 ^ 61 → b < h.n → h.get b = some ⟨ver, .cells md es bs⟩ → Go.Ev.row bs o (n * es) = some css → SlV h es n css (.slice b o n c ex)
theorem SlV.len {h : AHeap} {es n : Nat} {css : List AV} {v : AV} (s : SlV h es n css v) : lenA v = some (n : Int) := by cases s <;> rfl
theorem SlV.flat {h : AHeap} {es n : Nat} {css : List AV} {v : AV} (s : SlV h es n css v) : v.flat = true ∧ v.cells = [v] := by cases s <;> exact ⟨rfl, rfl⟩
theorem SlV.small {h : AHeap} {es n : Nat} {css : List AV} {v : AV} (s : SlV h es n css v) : n < 2 ^ 61 := by
  cases s with
  | row _ h0 _ _ _ => exact h0
  | nil => decide
  | emp => decide
theorem SlV.clen {h : AHeap} {es n : Nat} {css : List AV} {v : AV} (s : SlV h es n css v) : css.length = n * es := by
  cases s with
  | row _ _ _ _ hr => exact row_len hr
  | nil => simp
  | emp => simp
theorem SlV.keep {h h' : AHeap} {es n : Nat} {css : List AV} {v : AV} (s : SlV h es n css v) (hn : h.n ≤ h'.n) (f : ∀ b ver md bs, b < h.n → h.get b = some ⟨ver, .cells md es bs⟩ → h'.get b = h.get b) : SlV h' es n css v := by
  cases s with
  | nil => exact .nil
  | emp => exact .emp
  | row h0 h1 h2 h3 h4 => exact .row h0 h1 (Nat.lt_of_lt_of_le h2 hn) ((f _ _ _ _ h2 h3).trans h3) h4
theorem SlV.fr {h h' : AHeap} {es n : Nat} {css : List AV} {v : AV} (s : SlV h es n css v) (f : Fr h.n h h') : SlV h' es n css v := s.keep f.n fun b _ _ _ hb _ => f.all hb
/-- A slice of ints. -/
abbrev IntsV (h : AHeap) (l : List Int) (v : AV) : Prop := SlV h 1 l.length (l.map fun x => .int .i64 x) v
theorem SlV.inv {h : AHeap} {es n : Nat} {css : List AV} {v : AV} (s : SlV h es n css v) (hn : 0 < n) : ∃ b o c ex ver md bs, v = .slice b o n c ex ∧ b < h.n ∧ h.get b = some ⟨ver, .cells md es bs⟩ ∧ Go.Ev.row bs o (n * es) = some css := by
  cases s with
  | nil => omega
  | emp => omega
  | row h0 h1 h2 h3 h4 => exact ⟨_, _, _, _, _, _, _, rfl, h2, h3, h4⟩
theorem ints_at {h : AHeap} {l : List Int} {v : AV} (s : IntsV h l v) {i : Nat} (hi : i < l.length) : ∃ b o c ex ver md bs, v = .slice b o l.length c ex ∧ b < h.n ∧ h.get b = some ⟨ver, .cells md 1 bs⟩ ∧ bs[o + i]? = some (.int .i64 l[i]) := by
  obtain ⟨b, o, c, ex, ver, md, bs, h1, h2, h3, h4⟩ := s.inv (by omega)
  refine ⟨b, o, c, ex, ver, md, bs, h1, h2, h3, ?_⟩
  rw [row_get h4 (by omega)]
  simp [hi]
/-- A part of a slice. -/
theorem SlV.sub {h : AHeap} {es n b o c : Nat} {ex : Bool} {css : List AV} (s : SlV h es n css (.slice b o n c ex)) (i k c' : Nat) (ex' : Bool) (hk : i + k ≤ n) : SlV h es k ((css.drop (i * es)).take (k * es)) (.slice b (o + i * es) k c' ex') := by
  cases k with
  | zero => rw [Nat.zero_mul, List.take_zero]; exact .emp
  | succ k =>
    cases s with
    | emp => omega
    | row h0 h1 h2 h3 h4 =>
      have hl := row_len h4
      refine .row (Nat.succ_pos _) (by omega) h2 h3 ?_
      have e : (i + (k + 1)) * es ≤ n * es := Nat.mul_le_mul_right es hk
      rw [Nat.add_mul] at e
      rw [row_sub h4 e, row_mk (by omega)]

theorem within_spec {n a b : Int} {h : AHeap} {Q : QR} (hQ : Q (.ret (.bool (inside n a b))) h) : WF F 33 [.int .i64 n, .int .i64 a, .int .i64 b] h Q := by
  refine WF.code F33 rfl ?_
  simp (disch := first | omega | (simp only [hN] <;> omega) | fail) only [go_sem, simprocAttr]
  (first | refine kA (fun hb => ?_) (fun hb => ?_) | refine kB (fun hb => ?_) (fun hb => ?_) | refine kC (fun hb => ?_) (fun hb => ?_) | refine kD (fun hb => ?_) (fun hb => ?_) | refine kE (fun hb => ?_) (fun hb => ?_) | refine kF (fun hb => ?_) (fun hb => ?_)) <;> simp (disch := first | omega | (simp only [hN] <;> omega) | fail) only [go_sem, simprocAttr, hb] <;> exact useB hQ (Bool.eq_iff_iff.2 (by simp [inside] at *; omega))
theorem typ_spec {t : Int} {h : AHeap} {Q : QR} (hQ : Q (.ret (.bool (typB t))) h) : WF F 34 [.int .i64 t] h Q := by
  refine WF.code F34 rfl ?_
  simp (disch := first | omega | (simp only [hN] <;> omega) | fail) only [go_sem, simprocAttr]
  refine within_spec ?_
  simp (disch := first | omega | (simp only [hN] <;> omega) | fail) only [go_sem, simprocAttr]
  exact hQ
/-- What ends a reading: a panic of it. -/
@[go_sem] def wrongP : CRes := .pan (.iface 50 (.agg []))
theorem need_spec {b : Bool} {h : AHeap} {Q : QR} (hQ : if b then Q (.ret undefA) h else Q wrongP h) : WF F 27 [.bool b] h Q := by
  refine WF.code F27 rfl ?_
  cases b
  · simp (disch := first | omega | (simp only [hN] <;> omega) | fail) only [go_sem, simprocAttr]
    exact hQ
  · simp (disch := first | omega | (simp only [hN] <;> omega) | fail) only [go_sem, simprocAttr]
    exact hQ
theorem equal_spec {l m : List Int} {h : AHeap} {v w : AV} (hv : IntsV h l v) (hw : IntsV h m w) {Q : QR} (hQ : Q (.ret (.bool (decide (l = m)))) h) : WF F 28 [v, w] h Q := by
  refine WF.code F28 rfl ?_
  have h1 := hv.small
  have h2 := hw.small
  simp (disch := first | omega | (simp only [hN] <;> omega) | fail) only [go_sem, simprocAttr, hv.len, hw.len, hv.flat.1, hw.flat.1, hv.flat.2, hw.flat.2]
  by_cases he : l.length = m.length
  · simp (disch := first | omega | (simp only [hN] <;> omega) | fail) only [go_sem, simprocAttr, he, hv.len, hw.len]
    refine wp_loop (fun n a h' => ∃ i : Nat, n = m.length - i ∧ i ≤ m.length ∧ h' = h ∧ l.take i = m.take i ∧ a.tm.get 0 = some v ∧ a.tm.get 1 = some w ∧ a.tm.get 12 = some (.int .i64 (m.length : Int)) ∧ a.tm.get 13 = some (.int .i64 (i : Int)) ∧ a.df = []) ?_ m.length ?_
    · rintro n ⟨t, df⟩ h' ⟨i, hn, hi, rfl, ht, k0, k1, k12, k13, hdf⟩
      simp only at k0 k1 k12 k13 hdf
      subst hdf
      simp (disch := first | omega | (simp only [hN] <;> omega) | fail) only [go_sem, simprocAttr, k0, k1, k12, k13]
      (first | refine kA (fun hlt => ?_) (fun hlt => ?_) | refine kB (fun hlt => ?_) (fun hlt => ?_) | refine kC (fun hlt => ?_) (fun hlt => ?_) | refine kD (fun hlt => ?_) (fun hlt => ?_) | refine kE (fun hlt => ?_) (fun hlt => ?_) | refine kF (fun hlt => ?_) (fun hlt => ?_))
      · have hil : i < m.length := (by have := of_decide_eq_true hlt; omega)
        obtain ⟨b, o, c, ex, ver, md, bs, rfl, hb, hg, hr⟩ := ints_at hv (i := i) (by omega)
        obtain ⟨b', o', c', ex', ver', md', bs', rfl, hb', hg', hr'⟩ := ints_at hw (i := i) hil
        have i1 : ((i : Int) < (m.length : Int)) = True := by simp [hil]
        have i2 : ((i : Int) < (l.length : Int)) = True := by rw [he]; exact i1
        have iN : ((i : Int) + 1) = ((i + 1 : Nat) : Int) := by omega
        simp (disch := first | omega | (simp only [hN] <;> omega) | fail) only [go_sem, simprocAttr, k0, k1, k12, k13, Int.toNat_natCast, hg, hg', hr, hr', Nat.mul_one, i1, i2]
        have hl : l.take (i + 1) = l.take i ++ [l[i]] := by rw [List.take_add_one, List.getElem?_eq_getElem (by omega)]; rfl
        have hm : m.take (i + 1) = m.take i ++ [m[i]] := by rw [List.take_add_one, List.getElem?_eq_getElem hil]; rfl
        (first | refine kA (fun hx => ?_) (fun hx => ?_) | refine kB (fun hx => ?_) (fun hx => ?_) | refine kC (fun hx => ?_) (fun hx => ?_) | refine kD (fun hx => ?_) (fun hx => ?_) | refine kE (fun hx => ?_) (fun hx => ?_) | refine kF (fun hx => ?_) (fun hx => ?_))
        · have hx' : l[i] ≠ m[i] := by simpa using hx
          simp (disch := first | omega | (simp only [hN] <;> omega) | fail) only [go_sem, simprocAttr, k0, k1]
          refine useB hQ (decide_eq_false fun e => hx' ?_)
          subst e; rfl
        · have hx' : l[i] = m[i] := by simpa using hx
          simp (disch := first | omega | (simp only [hN] <;> omega) | fail) only [go_sem, simprocAttr, k0, k1, k12, k13, iN]
          refine ⟨m.length - (i + 1), by omega, i + 1, rfl, hil, by rw [hl, hm, ht, hx'], ?_⟩
          simp (disch := first | omega | (simp only [hN] <;> omega) | fail) only [go_sem, simprocAttr]
      · have hil : i = m.length := by have := of_decide_eq_false hlt; omega
        simp (disch := first | omega | (simp only [hN] <;> omega) | fail) only [go_sem, simprocAttr, k0, k1]
        subst hil
        rw [List.take_of_length_le (by omega), List.take_of_length_le (by omega)] at ht
        exact useB hQ (by simp [ht])
    · simp (disch := first | omega | (simp only [hN] <;> omega) | fail) only [go_sem, simprocAttr, he, hv.len]
      refine ⟨0, rfl, Nat.zero_le _, rfl, ?_⟩
      simp (disch := first | omega | (simp only [hN] <;> omega) | fail) only [go_sem, simprocAttr]
  · have i1 : ((l.length : Int) != (m.length : Int)) = true := by simp; omega
    simp (disch := first | omega | (simp only [hN] <;> omega) | fail) only [go_sem, simprocAttr, i1]
    refine useB hQ (decide_eq_false fun e => he ?_)
    rw [e]
theorem ints_sub {h : AHeap} {l : List Int} {b o c : Nat} {ex : Bool} (s : IntsV h l (.slice b o l.length c ex)) (i k c' : Nat) (ex' : Bool) (hk : i + k ≤ l.length) : IntsV h ((l.drop i).take k) (.slice b (o + i) k c' ex') := by
  have := s.sub i k c' ex' hk
  have e : ((l.drop i).take k).length = k := by rw [List.length_take, List.length_drop]; omega
  unfold IntsV
  rw [e, List.map_take, List.map_drop]
  simpa using this
/-- A slice that can be cut. -/
def SlC (h : AHeap) (es n : Nat) (css : List AV) (v : AV) : Prop := SlV h es n css v ∧ (v = .nilSlice ∨ ∃ b o c ex, v = .slice b o n c ex ∧ n ≤ c ∧ (ex = true ∨ (0 < c ∧ ∃ ver md bs, h.get b = some ⟨ver, .cells md es bs⟩ ∧ b < h.n)))
abbrev IntsC (h : AHeap) (l : List Int) (v : AV) : Prop := SlC h 1 l.length (l.map fun x => .int .i64 x) v
theorem SlC.cases {h : AHeap} {es n : Nat} {css : List AV} {v : AV} (s : SlC h es n css v) : (v = .nilSlice ∧ n = 0) ∨ (∃ b o c, v = .slice b o n c true ∧ n ≤ c) ∨ (∃ b o c ver md bs, v = .slice b o n c false ∧ n ≤ c ∧ 0 < c ∧ b < h.n ∧ h.get b = some ⟨ver, .cells md es bs⟩) := by
  obtain ⟨h1, rfl | ⟨b, o, c, ex, rfl, h2, h3⟩⟩ := s
  · cases h1; exact .inl ⟨rfl, rfl⟩
  · cases ex with
    | true => exact .inr (.inl ⟨b, o, c, rfl, h2⟩)
    | false =>
      rcases h3 with h3 | ⟨h3, ver, md, bs, h4, h5⟩
      · cases h3
      · exact .inr (.inr ⟨b, o, c, ver, md, bs, rfl, h2, h3, h5, h4⟩)
theorem SlC.keep {h h' : AHeap} {es n : Nat} {css : List AV} {v : AV} (s : SlC h es n css v) (hn : h.n ≤ h'.n) (f : ∀ b ver md bs, b < h.n → h.get b = some ⟨ver, .cells md es bs⟩ → h'.get b = h.get b) : SlC h' es n css v := by
  refine ⟨s.1.keep hn f, s.2.imp id ?_⟩
  rintro ⟨b, o, c, ex, e, h2, h3⟩
  refine ⟨b, o, c, ex, e, h2, h3.imp id ?_⟩
  rintro ⟨h3, ver, md, bs, h4, h5⟩
  exact ⟨h3, ver, md, bs, (f _ _ _ _ h5 h4).trans h4, Nat.lt_of_lt_of_le h5 hn⟩
theorem SlC.fr {h h' : AHeap} {es n : Nat} {css : List AV} {v : AV} (s : SlC h es n css v) (f : Fr h.n h h') : SlC h' es n css v := s.keep f.n fun b _ _ _ hb _ => f.all hb
/-- The first ones of a slice. -/
theorem ints_pre {h : AHeap} {l : List Int} {b o c : Nat} {ex : Bool} (s : IntsC h l (.slice b o l.length c ex)) (k : Nat) (hk : k ≤ l.length) : IntsC h (l.take k) (.slice b o k c ex) := by
  obtain ⟨h1, h2 | ⟨b, o, c, ex, e, h2, h3⟩⟩ := s
  · cases h2
  · cases e
    have e : (l.take k).length = k := by rw [List.length_take]; omega
    have := ints_sub h1 0 k c ex (by omega)
    rw [List.drop_zero, Nat.add_zero] at this
    refine ⟨this, .inr ⟨b, o, c, ex, by rw [e], by omega, h3⟩⟩
/-- A slice's block is not older. -/
def LoV (lo : Nat) (v : AV) : Prop := ∀ b o n c ex, v = .slice b o n c ex → lo ≤ b
theorem LoV.nil {lo : Nat} : LoV lo .nilSlice := fun _ _ _ _ _ e => by cases e
theorem LoV.same {b o n c o' n' c' : Nat} {ex ex' : Bool} : ∀ lo, LoV lo (.slice b o n c ex) → LoV lo (.slice b o' n' c' ex') := fun lo h _ _ _ _ _ e => by cases e; exact h _ _ _ _ _ rfl
theorem bnd00 : bnd (some (.int .i64 0)) 0 0 = some 0 := rfl
/-- The last ones of a slice, to read. -/
theorem ints_suf {h : AHeap} {l : List Int} {b o c : Nat} {ex : Bool} (s : IntsV h l (.slice b o l.length c ex)) (k o' c' : Nat) (ex' : Bool) (hk : k ≤ l.length) (ho : l.length - k = 0 ∨ o' = o + k) : IntsV h (l.drop k) (.slice b o' (l.length - k) c' ex') := by
  by_cases e : l.length - k = 0
  · have : l.drop k = [] := List.drop_of_length_le (by omega)
    rw [this, e]; exact .emp
  · obtain rfl := ho.resolve_left e
    have := ints_sub s k (l.length - k) c' ex' (by omega)
    rwa [List.take_of_length_le (by rw [List.length_drop]; omega)] at this
theorem pop_spec {l m : List Int} {h : AHeap} {v w : AV} (hv : IntsC h l v) (hw : IntsV h m w) {Q : QR} (hQ : match popP l m with
      | none => Q wrongP h
      | some s => ∀ u, IntsC h s u → (∀ lo, LoV lo v → LoV lo u) → Q (.ret u) h) : WF F 29 [v, w] h Q := by
  refine WF.code F29 rfl ?_
  have h1 := hv.1.small
  have h2 := hw.small
  unfold popP at hQ
  simp (disch := first | omega | (simp only [hN] <;> omega) | fail) only [go_sem, simprocAttr, hv.1.len, hw.len, hv.1.flat.1, hw.flat.1, hv.1.flat.2, hw.flat.2]
  by_cases hle : m.length ≤ l.length
  · have g1 : decide ((l.length : Int) ≥ (m.length : Int)) = true := decide_eq_true (by omega)
    have e1 : ((l.length : Int) - (m.length : Int)) = ((l.length - m.length : Nat) : Int) := by omega
    have hQ' : ∀ u, (∀ lo, LoV lo v → LoV lo u) → (l.drop (l.length - m.length) = m → IntsC h (l.take (l.length - m.length)) u) → if decide (l.drop (l.length - m.length) = m) = true then Q (.ret u) h else Q wrongP h := by
      intro u hlo hu
      by_cases e : l.drop (l.length - m.length) = m
      · rw [if_pos (decide_eq_true e)]
        rw [if_pos ⟨hle, e⟩] at hQ
        exact hQ u (hu e) hlo
      · rw [if_neg (by simp [e])]
        rw [if_neg (fun h => e h.2)] at hQ
        exact hQ
    rcases hv.cases with ⟨rfl, h0⟩ | ⟨b, o, c, rfl, hc⟩ | ⟨b, o, c, ver, md, bs, rfl, hc, hc0, hb2, hg⟩
    · have hm : m.length = 0 := by omega
      have hl : l = [] := List.length_eq_zero_iff.1 h0
      subst hl
      simp (disch := first | omega | (simp only [hN] <;> omega) | fail) only [go_sem, simprocAttr, g1, hv.1.len, hw.len, h0, hm, bnd00, Int.natCast_zero, Int.sub_self]
      refine equal_spec (l := []) .nil hw ?_
      have := hQ' .nilSlice (fun _ h => h) fun _ => ⟨by simp; exact .nil, .inl rfl⟩
      simp only [List.drop_nil] at this
      simp (disch := first | omega | (simp only [hN] <;> omega) | fail) only [go_sem, simprocAttr]
      refine need_spec ?_
      revert this
      generalize decide ([] = m) = bb
      intro this
      cases bb
      · rw [if_neg (by decide)] at this ⊢
        simp (disch := first | omega | (simp only [hN] <;> omega) | fail) only [go_sem, simprocAttr]
        exact this
      · rw [if_pos rfl] at this ⊢
        simp (disch := first | omega | (simp only [hN] <;> omega) | fail) only [go_sem, simprocAttr, hv.1.len, hw.len, h0, hm, bnd00, Int.natCast_zero, Int.sub_self]
        exact this
    · simp (disch := first | omega | (simp only [hN] <;> omega) | fail) only [go_sem, simprocAttr, g1, hv.1.len, hw.len, e1]
      refine equal_spec (l := l.drop (l.length - m.length)) (ints_suf hv.1 _ _ _ _ (by omega) ?_) hw ?_
      · by_cases e : c = l.length - m.length
        · exact .inl (by omega)
        · exact .inr (by rw [decide_eq_false e, cond_false, Nat.mul_one])
      simp (disch := first | omega | (simp only [hN] <;> omega) | fail) only [go_sem, simprocAttr]
      refine need_spec ?_
      have := hQ' (.slice b o (l.length - m.length) c true) LoV.same fun _ => ints_pre hv _ (by omega)
      revert this
      generalize decide (l.drop (l.length - m.length) = m) = bb
      intro this
      cases bb
      · rw [if_neg (by decide)] at this ⊢
        simp (disch := first | omega | (simp only [hN] <;> omega) | fail) only [go_sem, simprocAttr]
        exact this
      · rw [if_pos rfl] at this ⊢
        simp (disch := first | omega | (simp only [hN] <;> omega) | fail) only [go_sem, simprocAttr, hv.1.len, hw.len, e1, bnd_num, Nat.zero_mul, Nat.add_zero, Nat.sub_zero, Bool.cond_self]
        exact this
    · simp (disch := first | omega | (simp only [hN] <;> omega) | fail) only [go_sem, simprocAttr, g1, hv.1.len, hw.len, e1, hg, decide_eq_false (show ¬ c = 0 by omega), Option.isSome_none, Bool.and_false, cond_false]
      refine equal_spec (l := l.drop (l.length - m.length)) (ints_suf hv.1 _ _ _ _ (by omega) (.inr (by rw [Nat.mul_one]))) hw ?_
      simp (disch := first | omega | (simp only [hN] <;> omega) | fail) only [go_sem, simprocAttr]
      refine need_spec ?_
      have := hQ' (.slice b o (l.length - m.length) c false) LoV.same fun _ => ints_pre hv _ (by omega)
      revert this
      generalize decide (l.drop (l.length - m.length) = m) = bb
      intro this
      cases bb
      · rw [if_neg (by decide)] at this ⊢
        simp (disch := first | omega | (simp only [hN] <;> omega) | fail) only [go_sem, simprocAttr]
        exact this
      · rw [if_pos rfl] at this ⊢
        simp (disch := first | omega | (simp only [hN] <;> omega) | fail) only [go_sem, simprocAttr, hv.1.len, hw.len, e1, bnd_num, Nat.zero_mul, Nat.add_zero, Nat.sub_zero, Bool.cond_self, hg, decide_eq_false (show ¬ c = 0 by omega), Option.isSome_none, Bool.and_false, cond_false]
        exact this
  · have g1 : decide ((l.length : Int) ≥ (m.length : Int)) = false := decide_eq_false (by omega)
    simp (disch := first | omega | (simp only [hN] <;> omega) | fail) only [go_sem, simprocAttr, g1]
    refine need_spec ?_
    rw [if_neg (by omega)] at hQ
    rw [if_neg (by decide)]
    simp (disch := first | omega | (simp only [hN] <;> omega) | fail) only [go_sem, simprocAttr]
    exact hQ
end Go.Ev
/- Proofread: stacks that grow. -/
namespace Go.Ev
open Go
set_option maxRecDepth 100000
set_option maxHeartbeats 4000000

theorem eqS_nil : eqT (.one .slice) .nilSlice .nilSlice = some true := rfl
theorem eqS_sl {b o n c : Nat} {ex : Bool} : eqT (.one .slice) (.slice b o n c ex) .nilSlice = some false := rfl
theorem SlV.forms {h : AHeap} {es n : Nat} {css : List AV} {v : AV} (s : SlV h es n css v) : (v = .nilSlice ∧ n = 0) ∨ ∃ b o c ex, v = .slice b o n c ex := by
  cases s with
  | nil => exact .inl ⟨rfl, rfl⟩
  | emp => exact .inr ⟨_, _, _, _, rfl⟩
  | row => exact .inr ⟨_, _, _, _, rfl⟩
theorem app_exact {h : AHeap} {b ver n : Nat} {new : List AV} (hn : new.length = n) (hf : allFlat new = true) (h0 : 0 < n) (hr : n < 2 ^ 36) (hg : h.get b = some ⟨ver, .cells .own 1 []⟩) : appendA h 1 8 (.slice b 0 0 0 true) n new = some (.slice h.n 0 n n false, h.alloc (.cells .own 1 new)) := by
  have e1 : ¬ n = 0 := by omega
  have e2 : ¬ n ≤ 0 := by omega
  have r1 : n ≤ room := by simp only [room]; omega
  have r2 : n * 8 ≤ room := by simp only [room]; omega
  have r3 : row [] 0 0 = some [] := rfl
  simp only [appendA, beq_nat, ble_nat, hn, Nat.mul_one, decide_true, hf, Bool.not_true, Bool.or_false, cond_false, e1, decide_false, hg, Nat.zero_add, e2, r1, r2, Bool.and_true, cond_true, Nat.zero_mul, r3, List.nil_append]
theorem app_zero {h : AHeap} {b o n c : Nat} {ex : Bool} : appendA h 1 8 (.slice b o n c ex) 0 [] = some (.slice b o n c ex, h) := rfl
theorem flat_ints (l : List Int) : allFlat (l.map fun x => AV.int .i64 x) = true := by simp [allFlat, AV.flat]
/-- A slice that was just made. -/
def NewV (lo : Nat) (h : AHeap) (l : List Int) (u : AV) : Prop := (l = [] ∧ (u = .nilSlice ∨ ∃ b ver, u = .slice b 0 0 0 true ∧ lo ≤ b ∧ b < h.n ∧ h.get b = some ⟨ver, .cells .own 1 []⟩)) ∨ ∃ b ver, u = .slice b 0 l.length l.length false ∧ 0 < l.length ∧ lo ≤ b ∧ b < h.n ∧ h.get b = some ⟨ver, .cells .own 1 (l.map fun x => .int .i64 x)⟩
theorem NewV.ints {lo : Nat} {h : AHeap} {l : List Int} {u : AV} (n : NewV lo h l u) (hs : l.length < 2 ^ 61) : IntsV h l u := by
  rcases n with ⟨rfl, rfl | ⟨b, ver, rfl, _⟩⟩ | ⟨b, ver, rfl, h0, _, h2, h3⟩
  · exact .nil
  · exact .emp
  · exact .row h0 hs h2 h3 (row_all (by simp))
theorem NewV.fr1 {lo : Nat} {h : AHeap} {l : List Int} {u : AV} (n : NewV lo h l u) (o : AObj) : NewV lo (h.alloc o) l u := by
  rcases n with ⟨rfl, rfl | ⟨b, ver, rfl, h1, h2, h3⟩⟩ | ⟨b, ver, rfl, h0, h1, h2, h3⟩
  · exact .inl ⟨rfl, .inl rfl⟩
  · exact .inl ⟨rfl, .inr ⟨b, ver, rfl, h1, Nat.lt_succ_of_lt h2, by rw [AHeap.get_alloc, if_neg (by omega)]; exact h3⟩⟩
  · exact .inr ⟨b, ver, rfl, h0, h1, Nat.lt_succ_of_lt h2, by rw [AHeap.get_alloc, if_neg (by omega)]; exact h3⟩
theorem clone_spec {l : List Int} {h : AHeap} {v : AV} (hv : IntsV h l v) (hs : l.length < 2 ^ 36) {Q : QR} (hQ : ∀ h' u, Fr h.n h h' → NewV h.n h' l u → Q (.ret u) h') : WF F 47 [v] h Q := by
  refine WF.code F47 rfl ?_
  rcases hv.forms with ⟨rfl, h0⟩ | ⟨b, o, c, ex, rfl⟩
  · have hl : l = [] := List.length_eq_zero_iff.1 h0
    subst hl
    simp (disch := first | omega | (simp only [hN] <;> omega) | fail) only [go_sem, simprocAttr, eqS_nil]
    exact hQ _ _ (Fr.refl _ _) (.inl ⟨rfl, .inl rfl⟩)
  · by_cases h0 : l.length = 0
    · have hl : l = [] := List.length_eq_zero_iff.1 h0
      simp (disch := first | omega | (simp only [hN] <;> omega) | fail) only [go_sem, simprocAttr, eqS_sl, h0, app_zero]
      refine hQ _ _ ?_ (.inl ⟨hl, .inr ⟨h.n, 0, rfl, Nat.le_refl _, ?_, ?_⟩⟩)
      · exact ⟨by first | omega | (simp only [hN]; omega), fun b hb hne => by (try simp only [hN] at hb hne); simp (disch := first | omega | (simp only [hN] <;> omega) | fail) only [go_sem, simprocAttr]⟩
      · simp (disch := first | omega | (simp only [hN] <;> omega) | fail) only [go_sem, simprocAttr]; omega
      · simp (disch := first | omega | (simp only [hN] <;> omega) | fail) only [go_sem, simprocAttr]
    · obtain ⟨b', o', c', ex', ver, md, bs, e, hb, hg, hr⟩ := hv.inv (by omega)
      cases e
      have := app_exact (h := h.alloc (.cells .own 1 [])) (b := h.n) (ver := 0) (by rw [List.length_map]) (flat_ints l) (by omega) hs (by simp (disch := first | omega | (simp only [hN] <;> omega) | fail) only [go_sem, simprocAttr])
      simp (disch := first | omega | (simp only [hN] <;> omega) | fail) only [go_sem, simprocAttr, eqS_sl, decide_eq_false h0, hg, hr, this]
      refine hQ _ _ ?_ (.inr ⟨_, 0, rfl, by omega, ?_, ?_, ?_⟩)
      · exact ⟨by first | omega | (simp only [hN]; omega), fun b hb hne => by (try simp only [hN] at hb hne); simp (disch := first | omega | (simp only [hN] <;> omega) | fail) only [go_sem, simprocAttr]⟩
      · first | omega | (simp only [hN]; omega)
      · first | omega | (simp only [hN]; omega)
      · simp (disch := first | omega | (simp only [hN] <;> omega) | fail) only [go_sem, simprocAttr]
theorem clone_spec' {l : List Int} {h : AHeap} {v : AV} (hv : IntsV h l v) (hs : l.length < 2 ^ 36) {Q : QR} (hQ : ∀ h' u, Fr h.n h h' → NewV h.n h' l u → Q (.ret u) h') : WF F 18 [v] h Q := by
  refine WF.code F18 rfl ?_
  rcases hv.forms with ⟨rfl, h0⟩ | ⟨b, o, c, ex, rfl⟩
  · have hl : l = [] := List.length_eq_zero_iff.1 h0
    subst hl
    simp (disch := first | omega | (simp only [hN] <;> omega) | fail) only [go_sem, simprocAttr, eqS_nil]
    exact hQ _ _ (Fr.refl _ _) (.inl ⟨rfl, .inl rfl⟩)
  · by_cases h0 : l.length = 0
    · have hl : l = [] := List.length_eq_zero_iff.1 h0
      simp (disch := first | omega | (simp only [hN] <;> omega) | fail) only [go_sem, simprocAttr, eqS_sl, h0, app_zero]
      refine hQ _ _ ?_ (.inl ⟨hl, .inr ⟨h.n, 0, rfl, Nat.le_refl _, ?_, ?_⟩⟩)
      · exact ⟨by first | omega | (simp only [hN]; omega), fun b hb hne => by (try simp only [hN] at hb hne); simp (disch := first | omega | (simp only [hN] <;> omega) | fail) only [go_sem, simprocAttr]⟩
      · simp (disch := first | omega | (simp only [hN] <;> omega) | fail) only [go_sem, simprocAttr]; omega
      · simp (disch := first | omega | (simp only [hN] <;> omega) | fail) only [go_sem, simprocAttr]
    · obtain ⟨b', o', c', ex', ver, md, bs, e, hb, hg, hr⟩ := hv.inv (by omega)
      cases e
      have := app_exact (h := h.alloc (.cells .own 1 [])) (b := h.n) (ver := 0) (by rw [List.length_map]) (flat_ints l) (by omega) hs (by simp (disch := first | omega | (simp only [hN] <;> omega) | fail) only [go_sem, simprocAttr])
      simp (disch := first | omega | (simp only [hN] <;> omega) | fail) only [go_sem, simprocAttr, eqS_sl, decide_eq_false h0, hg, hr, this]
      refine hQ _ _ ?_ (.inr ⟨_, 0, rfl, by omega, ?_, ?_, ?_⟩)
      · exact ⟨by first | omega | (simp only [hN]; omega), fun b hb hne => by (try simp only [hN] at hb hne); simp (disch := first | omega | (simp only [hN] <;> omega) | fail) only [go_sem, simprocAttr]⟩
      · first | omega | (simp only [hN]; omega)
      · first | omega | (simp only [hN]; omega)
      · simp (disch := first | omega | (simp only [hN] <;> omega) | fail) only [go_sem, simprocAttr]
theorem NewV.push {lo : Nat} {h : AHeap} {l : List Int} {u : AV} {t : Int} (n : NewV lo h l u) (hs : l.length < 2 ^ 36) : ∃ h', appendA h 1 8 u 1 [.int .i64 t] = some (.slice h.n 0 (l.length + 1) (l.length + 1) false, h') ∧ h'.n = h.n + 1 ∧ h'.get h.n = some ⟨0, .cells .own 1 ((l ++ [t]).map fun x => .int .i64 x)⟩ ∧ ∀ b, b < h.n → b < lo → h'.get b = h.get b := by
  have r1 : ∀ k, k ≤ l.length + 1 → k ≤ room := by intro k hk; simp only [room]; omega
  have r2 : ∀ k, k ≤ l.length + 1 → k * 8 ≤ room := by intro k hk; simp only [room]; omega
  have hfl : allFlat [AV.int .i64 t] = true := rfl
  have l1 : [AV.int .i64 t].length = 1 := rfl
  rcases n with ⟨rfl, rfl | ⟨b, ver, rfl, h1, h2, h3⟩⟩ | ⟨b, ver, rfl, h0, h1, h2, h3⟩
  · refine ⟨h.alloc (.cells .own 1 [.int .i64 t]), ?_, rfl, by rw [AHeap.get_alloc, if_pos rfl]; rfl, fun b hb _ => by rw [AHeap.get_alloc, if_neg (by omega)]⟩
    have := r1 1 (by simp)
    have := r2 1 (by simp)
    simp_all [appendA, beq_nat, ble_nat]
  · refine ⟨h.alloc (.cells .own 1 [.int .i64 t]), app_exact l1 hfl (by decide) (by decide) h3, rfl, by rw [AHeap.get_alloc, if_pos rfl]; rfl, fun b hb _ => by rw [AHeap.get_alloc, if_neg (by omega)]⟩
  · refine ⟨(h.upd b (ver + 1) .dead).alloc (.cells .own 1 ((l ++ [t]).map fun x => .int .i64 x)), ?_, rfl, by rw [AHeap.get_alloc, AHeap.upd_n, if_pos rfl], fun b' hb hb' => by rw [AHeap.get_alloc, if_neg (by rw [AHeap.upd_n]; omega), AHeap.get_upd, if_neg (by omega)]⟩
    have e1 : ¬ l.length + 1 ≤ l.length := by omega
    have e2 : ¬ l.length = 0 := by omega
    have hrow : row (l.map fun x => AV.int .i64 x) 0 l.length = some (l.map fun x => AV.int .i64 x) := row_all (by simp)
    have q1 := r1 (l.length + 1) (Nat.le_refl _)
    have q2 := r2 (l.length + 1) (Nat.le_refl _)
    simp only [appendA, beq_nat, ble_nat, l1, hfl, Nat.mul_one, decide_true, Bool.not_true, Bool.or_false, cond_false, Nat.add_one_ne_zero, decide_false, h3, e1, q1, q2, hrow, Bool.and_true, cond_true, Nat.one_ne_zero, e2, List.map_append, List.map_cons, List.map_nil]
theorem push_spec {l : List Int} {t : Int} {h : AHeap} {v : AV} (hv : IntsV h l v) {Q : QR} (hQ : match pushP l t with
      | none => Q wrongP h
      | some s => ∀ h' u, Fr h.n h h' → IntsC h' s u → LoV h.n u → Q (.ret u) h') : WF F 39 [v, .int .i64 t] h Q := by
  refine WF.code F39 rfl ?_
  unfold pushP at hQ
  simp (disch := first | omega | (simp only [hN] <;> omega) | fail) only [go_sem, simprocAttr, hv.len, hv.flat.1, hv.flat.2]
  refine need_spec ?_
  by_cases h64 : l.length < 64
  · rw [if_pos h64] at hQ
    rw [if_pos (decide_eq_true (by omega))]
    simp (disch := first | omega | (simp only [hN] <;> omega) | fail) only [go_sem, simprocAttr]
    refine clone_spec hv (by omega) ?_
    intro h1 u hf hu
    have hn1 := hf.n; try simp only [hN] at hn1
    obtain ⟨h2, happ, hn2, hg2, ho2⟩ := NewV.push (h := h1.alloc (.cells .own 1 [.int .i64 t])) (t := t) (hu.fr1 _) (by omega)
    simp (disch := first | omega | (simp only [hN] <;> omega) | fail) only [go_sem, simprocAttr, happ]
    refine hQ h2 _ ?_ ⟨?_, .inr ⟨_, 0, _, _, by rw [List.length_append]; rfl, by simp, .inr ⟨Nat.succ_pos _, 0, .own, _, hg2, by rw [hn2]; simp (disch := first | omega | (simp only [hN] <;> omega) | fail) only [go_sem, simprocAttr]; omega⟩⟩⟩ ?_
    · refine ⟨by rw [hn2]; simp (disch := first | omega | (simp only [hN] <;> omega) | fail) only [go_sem, simprocAttr]; omega, fun b hb hne => ?_⟩
      rw [ho2 b (by simp (disch := first | omega | (simp only [hN] <;> omega) | fail) only [go_sem, simprocAttr]; omega) hb]
      simp (disch := first | omega | (simp only [hN] <;> omega) | fail) only [go_sem, simprocAttr, hf.old]
    · have := SlV.row (es := 1) (o := 0) (n := (l ++ [t]).length) (c := l.length + 1) (ex := false) (by simp) (by rw [List.length_append, List.length_cons, List.length_nil]; omega) (by rw [hn2]; simp (disch := first | omega | (simp only [hN] <;> omega) | fail) only [go_sem, simprocAttr]; omega) hg2 (row_all (by simp))
      simpa using this
    · intro b o n c ex e
      cases e
      have : (h1.alloc (.cells .own 1 [.int .i64 t])).n = h1.n + 1 := rfl
      omega
  · rw [if_neg h64] at hQ
    rw [if_neg (by simp; omega)]
    simp (disch := first | omega | (simp only [hN] <;> omega) | fail) only [go_sem, simprocAttr]
    exact hQ
theorem top_spec {l : List Int} {n : Nat} {h : AHeap} {v : AV} (hv : IntsC h l v) (hn : n ≤ 2) {Q : QR} (hQ : match topP l n with
      | none => Q wrongP h
      | some s => ∀ u, IntsV h s u → Q (.ret u) h) : WF F 40 [v, .int .i64 (n : Int)] h Q := by
  refine WF.code F40 rfl ?_
  have h1 := hv.1.small
  unfold topP at hQ
  simp (disch := first | omega | (simp only [hN] <;> omega) | fail) only [go_sem, simprocAttr, hv.1.len, hv.1.flat.1, hv.1.flat.2]
  refine need_spec ?_
  by_cases hle : n ≤ l.length
  · rw [if_pos hle] at hQ
    rw [if_pos (decide_eq_true (by omega))]
    have e1 : ((l.length : Int) - (n : Int)) = ((l.length - n : Nat) : Int) := by omega
    rcases hv.cases with ⟨rfl, h0⟩ | ⟨b, o, c, rfl, hc⟩ | ⟨b, o, c, ver, md, bs, rfl, hc, hc0, hb2, hg⟩
    · have hm : n = 0 := by omega
      have hl : l = [] := List.length_eq_zero_iff.1 h0
      subst hl hm
      simp (disch := first | omega | (simp only [hN] <;> omega) | fail) only [go_sem, simprocAttr, hv.1.len, bnd00, h0, Int.natCast_zero, Int.sub_self]
      exact hQ _ .nil
    · simp (disch := first | omega | (simp only [hN] <;> omega) | fail) only [go_sem, simprocAttr, hv.1.len, e1]
      refine hQ _ (ints_suf hv.1 _ _ _ _ (by omega) ?_)
      by_cases e : c = l.length - n
      · exact .inl (by omega)
      · exact .inr (by rw [decide_eq_false e, cond_false, Nat.mul_one])
    · simp (disch := first | omega | (simp only [hN] <;> omega) | fail) only [go_sem, simprocAttr, hv.1.len, e1, hg, decide_eq_false (show ¬ c = 0 by omega), Option.isSome_none, Bool.and_false, cond_false]
      exact hQ _ (ints_suf hv.1 _ _ _ _ (by omega) (.inr (by rw [Nat.mul_one])))
  · rw [if_neg hle] at hQ
    rw [if_neg (by simp; omega)]
    simp (disch := first | omega | (simp only [hN] <;> omega) | fail) only [go_sem, simprocAttr]
    exact hQ
end Go.Ev
/- Proofread: operators. -/
namespace Go.Ev
open Go
set_option maxRecDepth 100000
set_option maxHeartbeats 4000000

theorem k10 : keyOk (.one .int) (.int .i64 10) = true := rfl
theorem k11 : keyOk (.one .int) (.int .i64 11) = true := rfl
theorem s10 {v : AV} : setA (.one .int) (.int .i64 10) v [] = some [(.int .i64 10, v)] := rfl
theorem s11 {v w : AV} : setA (.one .int) (.int .i64 11) w [(.int .i64 10, v)] = some [(.int .i64 10, v), (.int .i64 11, w)] := rfl
theorem f10 {v w : AV} : findA (.one .int) (.int .i64 10) [(.int .i64 10, v), (.int .i64 11, w)] = some (some v) := rfl
theorem f11 {v w : AV} : findA (.one .int) (.int .i64 11) [(.int .i64 10, v), (.int .i64 11, w)] = some (some w) := rfl
theorem operator_spec {op a : Int} {h : AHeap} {Q : QR} (hop : op = 10 ∨ op = 11) (hQ : ∀ h', Fr h.n h h' → Q (.ret (.str (opName op a))) h') : WF F 38 [.int .i64 op, .int .i64 a] h Q := by
  refine WF.code F38 rfl ?_
  simp (disch := first | omega | (simp only [hN] <;> omega) | fail) only [go_sem, simprocAttr]
  refine WF.code F45 rfl ?_
  simp (disch := first | omega | (simp only [hN] <;> omega) | fail) only [go_sem, simprocAttr, k10, s10]
  refine WF.code F46 rfl ?_
  rcases hop with rfl | rfl
  · simp (disch := first | omega | (simp only [hN] <;> omega) | fail) only [go_sem, simprocAttr, k11, s11, k10, f10]
    by_cases h0 : a < 0
    · have g0 : decide (a < 0) = true := decide_eq_true h0
      have : opName 10 a = [] := by simp [opName, h0]
      rw [this] at hQ
      simp (disch := first | omega | (simp only [hN] <;> omega) | fail) only [go_sem, simprocAttr, g0]
      exact hQ _ ⟨by first | omega | (simp only [hN]; omega), fun b hb hne => by (try simp only [hN] at hb hne); simp (disch := first | omega | (simp only [hN] <;> omega) | fail) only [go_sem, simprocAttr]⟩
    · have g0 : decide (a < 0) = false := decide_eq_false h0
      by_cases h5 : a < 5
      · have g5 : decide (a ≥ 5) = false := decide_eq_false (by omega)
        simp (disch := first | omega | (simp only [hN] <;> omega) | fail) only [go_sem, simprocAttr, g0, g5]
        rcases (by omega : a = 0 ∨ a = 1 ∨ a = 2 ∨ a = 3 ∨ a = 4) with rfl | rfl | rfl | rfl | rfl <;> simp (disch := first | omega | (simp only [hN] <;> omega) | fail) only [go_sem, simprocAttr] <;> exact hQ _ ⟨by first | omega | (simp only [hN]; omega), fun b hb hne => by (try simp only [hN] at hb hne); simp (disch := first | omega | (simp only [hN] <;> omega) | fail) only [go_sem, simprocAttr]⟩
      · have g5 : decide (a ≥ 5) = true := decide_eq_true (by omega)
        have : opName 10 a = [] := by
          have : unaryL.length ≤ a.toNat := by simp [unaryL]; omega
          simp [opName, h0, List.getElem?_eq_none this]
        rw [this] at hQ
        simp (disch := first | omega | (simp only [hN] <;> omega) | fail) only [go_sem, simprocAttr, g0, g5]
        exact hQ _ ⟨by first | omega | (simp only [hN]; omega), fun b hb hne => by (try simp only [hN] at hb hne); simp (disch := first | omega | (simp only [hN] <;> omega) | fail) only [go_sem, simprocAttr]⟩
  · simp (disch := first | omega | (simp only [hN] <;> omega) | fail) only [go_sem, simprocAttr, k11, s11, k10, f11]
    by_cases h0 : a < 0
    · have g0 : decide (a < 0) = true := decide_eq_true h0
      have : opName 11 a = [] := by simp [opName, h0]
      rw [this] at hQ
      simp (disch := first | omega | (simp only [hN] <;> omega) | fail) only [go_sem, simprocAttr, g0]
      exact hQ _ ⟨by first | omega | (simp only [hN]; omega), fun b hb hne => by (try simp only [hN] at hb hne); simp (disch := first | omega | (simp only [hN] <;> omega) | fail) only [go_sem, simprocAttr]⟩
    · have g0 : decide (a < 0) = false := decide_eq_false h0
      by_cases h5 : a < 12
      · have g5 : decide (a ≥ 12) = false := decide_eq_false (by omega)
        simp (disch := first | omega | (simp only [hN] <;> omega) | fail) only [go_sem, simprocAttr, g0, g5]
        rcases (by omega : a = 0 ∨ a = 1 ∨ a = 2 ∨ a = 3 ∨ a = 4 ∨ a = 5 ∨ a = 6 ∨ a = 7 ∨ a = 8 ∨ a = 9 ∨ a = 10 ∨ a = 11) with rfl | rfl | rfl | rfl | rfl | rfl | rfl | rfl | rfl | rfl | rfl | rfl <;> simp (disch := first | omega | (simp only [hN] <;> omega) | fail) only [go_sem, simprocAttr] <;> exact hQ _ ⟨by first | omega | (simp only [hN]; omega), fun b hb hne => by (try simp only [hN] at hb hne); simp (disch := first | omega | (simp only [hN] <;> omega) | fail) only [go_sem, simprocAttr]⟩
      · have g5 : decide (a ≥ 12) = true := decide_eq_true (by omega)
        have : opName 11 a = [] := by
          have : binaryL.length ≤ a.toNat := by simp [binaryL]; omega
          simp [opName, h0, List.getElem?_eq_none this]
        rw [this] at hQ
        simp (disch := first | omega | (simp only [hN] <;> omega) | fail) only [go_sem, simprocAttr, g0, g5]
        exact hQ _ ⟨by first | omega | (simp only [hN]; omega), fun b hb hne => by (try simp only [hN] at hb hne); simp (disch := first | omega | (simp only [hN] <;> omega) | fail) only [go_sem, simprocAttr]⟩
theorem want_cut0 {F : FT} {l : List MOper} {b : Bool} {o : MOper} {a : AAct} {h : AHeap} {K : Post} (I : AAct → AHeap → Prop) {y : MCode} (w : wantP F (wpOps F l) b o a h (cutP I K)) (hI : ∀ a h, I a h → wpC F y a h K) : wantP F (wpOps F l) b o a h (sqP (wpC F y) K) := wantP_mono (cut_sq hI) w
theorem eq_bs {a b : Bs} (h : a = b) : (a == b) = true := by simp [h]
theorem ne_bs {a b : Bs} (h : ¬ a = b) : (a == b) = false := by simp [h]
def insC (x : Ins) : List AV := [.int .i64 x.op, .int .i64 x.a, .int .i64 x.b, .int .u64 x.bits, .int .i64 x.pos]
theorem oper_spec {x : Ins} {ts : List Int} {h : AHeap} {v : AV} {Q : QR} (hx : (x.op = 10 ∧ ts.length = 1) ∨ (x.op = 11 ∧ ts.length = 2)) (hv : IntsV h ts v) (hQ : match operP x ts with
      | none => ∀ h', Fr h.n h h' → Q wrongP h'
      | some t => ∀ h', Fr h.n h h' → Q (.ret (.int .i64 t)) h') : WF F 41 [.agg (insC x), v] h Q := by
  refine WF.code F41 rfl ?_
  have hlen : 0 < ts.length := by rcases hx with h | h <;> omega
  obtain ⟨b, o, c, ex, ver, md, bs, rfl, hb, hg, hr⟩ := ints_at hv hlen
  simp (disch := first | omega | (simp only [hN] <;> omega) | fail) only [go_sem, simprocAttr, insC]
  refine operator_spec (by rcases hx with h | h <;> simp [h.1]) ?_
  intro h1 hf1
  have hn1 := hf1.n; try simp only [hN] at hn1
  have b1 : h1.get h.n = some ⟨0, .cells .own 0 (insC x)⟩ := by simp (disch := first | omega | (simp only [hN] <;> omega) | fail) only [go_sem, simprocAttr, hf1.old, insC]
  have g1 : h1.get b = some ⟨ver, .cells md 1 bs⟩ := by simp (disch := first | omega | (simp only [hN] <;> omega) | fail) only [go_sem, simprocAttr, hf1.old, hg]
  have f1 : ∀ b', b' < h.n → h1.get b' = h.get b' := fun b' hb' => by simp (disch := first | omega | (simp only [hN] <;> omega) | fail) only [go_sem, simprocAttr, hf1.old]
  clear hf1
  have i0 : ((0 : Int) < (ts.length : Int)) = True := by simp; omega
  have ht0 : ts.getD 0 0 = ts[0] := by simp [List.getD, hlen]
  have hfr : Fr h.n h h1 := ⟨by omega, fun b' hb' _ => f1 b' hb'⟩
  unfold operP at hQ
  simp only [ht0] at hQ
  generalize opName x.op x.a = nm at *
  have hr0 : bs[o]? = some (.int .i64 ts[0]) := by simpa using hr
  simp (disch := first | omega | (simp only [hN] <;> omega) | fail) only [go_sem, simprocAttr, insC, g1, Nat.add_zero, hr0, i0]
  have hNo : ∀ (P : Prop), ((ts.length = 1 ∨ ts.getD 1 0 = ts[0]) → P) → (¬ (ts.length = 1 ∨ ts.getD 1 0 = ts[0]) → Q wrongP h1) → P ∨ Q wrongP h1 := by
    intro P a b
    by_cases e : ts.length = 1 ∨ ts.getD 1 0 = ts[0]
    · exact .inl (a e)
    · exact .inr (b e)
  refine want_cut0 (fun a h' => h' = h1 ∧ (ts.length = 1 ∨ ts.getD 1 0 = ts[0]) ∧ a.tm.get 2 = some (.ptr h.n 0) ∧ a.tm.get 5 = some (.str nm) ∧ a.tm.get 6 = some (.int .i64 ts[0]) ∧ a.df = []) ?_ ?_
  · by_cases l1 : ts.length = 1
    · have e1 : ((ts.length : Int) == 1) = true := by simp; omega
      simp (disch := first | omega | (simp only [hN] <;> omega) | fail) only [go_sem, simprocAttr, e1]
      refine need_spec ?_
      rw [if_pos rfl]
      simp (disch := first | omega | (simp only [hN] <;> omega) | fail) only [go_sem, simprocAttr]
      exact .inl l1
    · have l2 : 1 < ts.length := by omega
      have e1 : ((ts.length : Int) == 1) = false := by simp; omega
      obtain ⟨b', o', c', ex', ver', md', bs', e, hb', hg', hr'⟩ := ints_at hv l2
      cases e
      rw [hg] at hg'
      cases hg'
      have i1 : ((1 : Int) < (ts.length : Int)) = True := by simp; omega
      simp (disch := first | omega | (simp only [hN] <;> omega) | fail) only [go_sem, simprocAttr, e1, g1, hr', i1]
      refine need_spec ?_
      have ht1 : ts.getD 1 0 = ts[1] := by simp [List.getD, l2]
      by_cases e : ts[1] = ts[0]
      · rw [if_pos (by simpa using e)]
        simp (disch := first | omega | (simp only [hN] <;> omega) | fail) only [go_sem, simprocAttr]
        exact .inr (ht1.trans e)
      · rw [if_neg (by simpa using e)]
        rw [if_neg (by rw [ht1]; exact fun h => h.elim l1 e)] at hQ
        simp (disch := first | omega | (simp only [hN] <;> omega) | fail) only [go_sem, simprocAttr]
        exact hQ _ hfr
  · rintro ⟨t, df⟩ h' ⟨rfl, hok, k2, k5, k6, hdf⟩
    simp only at k2 k5 k6 hdf
    subst hdf
    rw [if_pos hok] at hQ
    generalize ts[0] = tt at *
    simp (disch := first | omega | (simp only [hN] <;> omega) | fail) only [go_sem, simprocAttr, k2, k5, k6]
    refine want_cut0 (fun a h2 => h2 = h' ∧ a.tm.get 2 = some (.ptr h.n 0) ∧ a.tm.get 5 = some (.str nm) ∧ a.tm.get 6 = some (.int .i64 tt) ∧ a.tm.get 7 = some (.bool (numT tt)) ∧ a.df = []) ?_ ?_
    · by_cases t1 : tt = 1
      · simp (disch := first | omega | (simp only [hN] <;> omega) | fail) only [go_sem, simprocAttr, t1, k2, k5, k6]
        simp [numT]
      · have e1 : (tt == 1) = false := by simp [t1]
        simp (disch := first | omega | (simp only [hN] <;> omega) | fail) only [go_sem, simprocAttr, e1, k2, k5, k6]
        simp [numT, e1]
    · clear k2 k5 k6
      rintro ⟨t, df⟩ h2 ⟨rfl, k2, k5, k6, k7, hdf⟩
      simp only at k2 k5 k6 k7 hdf
      subst hdf
      simp (disch := first | omega | (simp only [hN] <;> omega) | fail) only [go_sem, simprocAttr, k2, k5, k6, k7, b1, insC]
      by_cases c10 : x.op = 10
      · have e10 : (x.op == 10) = true := by simp [c10]
        by_cases n1 : nm = [45]
        · simp (disch := first | omega | (simp only [hN] <;> omega) | fail) only [go_sem, simprocAttr, k2, k5, k6, k7, b1, insC, e10, eq_bs n1]
          refine need_spec ?_
          by_cases q : numT tt
          · rw [if_pos (by simp [q])]
            simp [c10, n1, q] at hQ
            simp (disch := first | omega | (simp only [hN] <;> omega) | fail) only [go_sem, simprocAttr, k2, k5, k6, k7, b1, insC]
            first | exact hQ _ hfr | (rw [q]; exact hQ _ hfr)
          · rw [if_neg (by simp [q])]
            simp [c10, n1, q] at hQ
            simp (disch := first | omega | (simp only [hN] <;> omega) | fail) only [go_sem, simprocAttr, k2, k5, k6, k7, b1, insC]
            exact hQ _ hfr
        by_cases n2 : nm = [33]
        · simp (disch := first | omega | (simp only [hN] <;> omega) | fail) only [go_sem, simprocAttr, k2, k5, k6, k7, b1, insC, e10, ne_bs n1, eq_bs n2]
          refine need_spec ?_
          by_cases q : tt = 3
          · rw [if_pos (by simp [q])]
            simp [c10, n1, n2, q] at hQ
            simp (disch := first | omega | (simp only [hN] <;> omega) | fail) only [go_sem, simprocAttr, k2, k5, k6, k7, b1, insC]
            first | exact hQ _ hfr | (rw [q]; exact hQ _ hfr)
          · rw [if_neg (by simp [q])]
            simp [c10, n1, n2, q] at hQ
            simp (disch := first | omega | (simp only [hN] <;> omega) | fail) only [go_sem, simprocAttr, k2, k5, k6, k7, b1, insC]
            exact hQ _ hfr
        by_cases n3 : nm = [105, 110, 116]
        · simp (disch := first | omega | (simp only [hN] <;> omega) | fail) only [go_sem, simprocAttr, k2, k5, k6, k7, b1, insC, e10, ne_bs n1, ne_bs n2, eq_bs n3]
          refine need_spec ?_
          by_cases q : tt = 2
          · rw [if_pos (by simp [q])]
            simp [c10, n1, n2, n3, q] at hQ
            simp (disch := first | omega | (simp only [hN] <;> omega) | fail) only [go_sem, simprocAttr, k2, k5, k6, k7, b1, insC]
            first | exact hQ _ hfr | (rw [q]; exact hQ _ hfr)
          · rw [if_neg (by simp [q])]
            simp [c10, n1, n2, n3, q] at hQ
            simp (disch := first | omega | (simp only [hN] <;> omega) | fail) only [go_sem, simprocAttr, k2, k5, k6, k7, b1, insC]
            exact hQ _ hfr
        by_cases n4 : nm = [102, 108, 111, 97, 116]
        · simp (disch := first | omega | (simp only [hN] <;> omega) | fail) only [go_sem, simprocAttr, k2, k5, k6, k7, b1, insC, e10, ne_bs n1, ne_bs n2, ne_bs n3, eq_bs n4]
          refine need_spec ?_
          by_cases q : tt = 1
          · rw [if_pos (by simp [q])]
            simp [c10, n1, n2, n3, n4, q] at hQ
            simp (disch := first | omega | (simp only [hN] <;> omega) | fail) only [go_sem, simprocAttr, k2, k5, k6, k7, b1, insC]
            first | exact hQ _ hfr | (rw [q]; exact hQ _ hfr)
          · rw [if_neg (by simp [q])]
            simp [c10, n1, n2, n3, n4, q] at hQ
            simp (disch := first | omega | (simp only [hN] <;> omega) | fail) only [go_sem, simprocAttr, k2, k5, k6, k7, b1, insC]
            exact hQ _ hfr
        by_cases n5 : nm = [37]
        · simp (disch := first | omega | (simp only [hN] <;> omega) | fail) only [go_sem, simprocAttr, k2, k5, k6, k7, b1, insC, e10, ne_bs n1, ne_bs n2, ne_bs n3, ne_bs n4, eq_bs n5]
          refine need_spec ?_
          by_cases q : tt = 1
          · rw [if_pos (by simp [q])]
            simp [c10, n1, n2, n3, n4, n5, q] at hQ
            simp (disch := first | omega | (simp only [hN] <;> omega) | fail) only [go_sem, simprocAttr, k2, k5, k6, k7, b1, insC]
            first | exact hQ _ hfr | (rw [q]; exact hQ _ hfr)
          · rw [if_neg (by simp [q])]
            simp [c10, n1, n2, n3, n4, n5, q] at hQ
            simp (disch := first | omega | (simp only [hN] <;> omega) | fail) only [go_sem, simprocAttr, k2, k5, k6, k7, b1, insC]
            exact hQ _ hfr
        by_cases n6 : nm = [61, 61]
        · simp (disch := first | omega | (simp only [hN] <;> omega) | fail) only [go_sem, simprocAttr, k2, k5, k6, k7, b1, insC, e10, ne_bs n1, ne_bs n2, ne_bs n3, ne_bs n4, ne_bs n5, eq_bs n6]
          simp [c10, n1, n2, n3, n4, n5, n6] at hQ
          exact hQ _ hfr
        by_cases n7 : nm = [33, 61]
        · simp (disch := first | omega | (simp only [hN] <;> omega) | fail) only [go_sem, simprocAttr, k2, k5, k6, k7, b1, insC, e10, ne_bs n1, ne_bs n2, ne_bs n3, ne_bs n4, ne_bs n5, ne_bs n6, eq_bs n7]
          simp [c10, n1, n2, n3, n4, n5, n6, n7] at hQ
          exact hQ _ hfr
        simp (disch := first | omega | (simp only [hN] <;> omega) | fail) only [go_sem, simprocAttr, k2, k5, k6, k7, b1, insC, e10, ne_bs n1, ne_bs n2, ne_bs n3, ne_bs n4, ne_bs n5, ne_bs n6, ne_bs n7]
        refine sContains (ws := [[60], [60, 61], [62], [62, 61]]) (ver := 0) (md := .own) (by (first | (simp (disch := first | omega | (simp only [hN] <;> omega) | fail) only [go_sem, simprocAttr]; done) | (simp (disch := first | omega | (simp only [hN] <;> omega) | fail) only [go_sem, simprocAttr]; rfl))) (by decide) ?_
        have hfr2 : ∀ o, Fr h.n h (h2.alloc o) := fun o => hfr.alloc o
        by_cases n8 : nm ∈ ([[60], [60, 61], [62], [62, 61]] : List Bs)
        · have g8 : List.contains [[60], [60, 61], [62], [62, 61]] nm = true := by simpa using n8
          simp (disch := first | omega | (simp only [hN] <;> omega) | fail) only [go_sem, simprocAttr, k2, k5, k6, k7, b1, insC, g8]
          refine need_spec ?_
          simp only [List.mem_cons, List.not_mem_nil, or_false] at n8
          by_cases q : numT tt
          · rw [if_pos (by simp [q])]
            simp [c10, n1, n2, n3, n4, n5, n6, n7, n8, q] at hQ
            simp (disch := first | omega | (simp only [hN] <;> omega) | fail) only [go_sem, simprocAttr, k2, k5, k6, k7, b1, insC]
            exact hQ _ (hfr2 _)
          · rw [if_neg (by simp [q])]
            simp [c10, n1, n2, n3, n4, n5, n6, n7, n8, q] at hQ
            simp (disch := first | omega | (simp only [hN] <;> omega) | fail) only [go_sem, simprocAttr, k2, k5, k6, k7, b1, insC]
            exact hQ _ (hfr2 _)
        · have g8 : List.contains [[60], [60, 61], [62], [62, 61]] nm = false := by simpa using n8
          simp (disch := first | omega | (simp only [hN] <;> omega) | fail) only [go_sem, simprocAttr, k2, k5, k6, k7, b1, insC, g8]
          refine need_spec ?_
          simp only [List.mem_cons, List.not_mem_nil, or_false] at n8
          by_cases q : numT tt
          · rw [if_pos (by simp [q])]
            simp [c10, n1, n2, n3, n4, n5, n6, n7, n8, q] at hQ
            simp (disch := first | omega | (simp only [hN] <;> omega) | fail) only [go_sem, simprocAttr, k2, k5, k6, k7, b1, insC]
            exact hQ _ (hfr2 _)
          · rw [if_neg (by simp [q])]
            simp [c10, n1, n2, n3, n4, n5, n6, n7, n8, q] at hQ
            simp (disch := first | omega | (simp only [hN] <;> omega) | fail) only [go_sem, simprocAttr, k2, k5, k6, k7, b1, insC]
            exact hQ _ (hfr2 _)
      · have e10 : (x.op == 10) = false := by simp [c10]
        by_cases n3 : nm = [105, 110, 116]
        · simp (disch := first | omega | (simp only [hN] <;> omega) | fail) only [go_sem, simprocAttr, k2, k5, k6, k7, b1, insC, e10, eq_bs n3]
          refine need_spec ?_
          by_cases q : tt = 2
          · rw [if_pos (by simp [q])]
            simp [c10, n3, q] at hQ
            simp (disch := first | omega | (simp only [hN] <;> omega) | fail) only [go_sem, simprocAttr, k2, k5, k6, k7, b1, insC]
            first | exact hQ _ hfr | (rw [q]; exact hQ _ hfr)
          · rw [if_neg (by simp [q])]
            simp [c10, n3, q] at hQ
            simp (disch := first | omega | (simp only [hN] <;> omega) | fail) only [go_sem, simprocAttr, k2, k5, k6, k7, b1, insC]
            exact hQ _ hfr
        by_cases n4 : nm = [102, 108, 111, 97, 116]
        · simp (disch := first | omega | (simp only [hN] <;> omega) | fail) only [go_sem, simprocAttr, k2, k5, k6, k7, b1, insC, e10, ne_bs n3, eq_bs n4]
          refine need_spec ?_
          by_cases q : tt = 1
          · rw [if_pos (by simp [q])]
            simp [c10, n3, n4, q] at hQ
            simp (disch := first | omega | (simp only [hN] <;> omega) | fail) only [go_sem, simprocAttr, k2, k5, k6, k7, b1, insC]
            first | exact hQ _ hfr | (rw [q]; exact hQ _ hfr)
          · rw [if_neg (by simp [q])]
            simp [c10, n3, n4, q] at hQ
            simp (disch := first | omega | (simp only [hN] <;> omega) | fail) only [go_sem, simprocAttr, k2, k5, k6, k7, b1, insC]
            exact hQ _ hfr
        by_cases n5 : nm = [37]
        · simp (disch := first | omega | (simp only [hN] <;> omega) | fail) only [go_sem, simprocAttr, k2, k5, k6, k7, b1, insC, e10, ne_bs n3, ne_bs n4, eq_bs n5]
          refine need_spec ?_
          by_cases q : tt = 1
          · rw [if_pos (by simp [q])]
            simp [c10, n3, n4, n5, q] at hQ
            simp (disch := first | omega | (simp only [hN] <;> omega) | fail) only [go_sem, simprocAttr, k2, k5, k6, k7, b1, insC]
            first | exact hQ _ hfr | (rw [q]; exact hQ _ hfr)
          · rw [if_neg (by simp [q])]
            simp [c10, n3, n4, n5, q] at hQ
            simp (disch := first | omega | (simp only [hN] <;> omega) | fail) only [go_sem, simprocAttr, k2, k5, k6, k7, b1, insC]
            exact hQ _ hfr
        by_cases n6 : nm = [61, 61]
        · simp (disch := first | omega | (simp only [hN] <;> omega) | fail) only [go_sem, simprocAttr, k2, k5, k6, k7, b1, insC, e10, ne_bs n3, ne_bs n4, ne_bs n5, eq_bs n6]
          simp [c10, n3, n4, n5, n6] at hQ
          exact hQ _ hfr
        by_cases n7 : nm = [33, 61]
        · simp (disch := first | omega | (simp only [hN] <;> omega) | fail) only [go_sem, simprocAttr, k2, k5, k6, k7, b1, insC, e10, ne_bs n3, ne_bs n4, ne_bs n5, ne_bs n6, eq_bs n7]
          simp [c10, n3, n4, n5, n6, n7] at hQ
          exact hQ _ hfr
        simp (disch := first | omega | (simp only [hN] <;> omega) | fail) only [go_sem, simprocAttr, k2, k5, k6, k7, b1, insC, e10, ne_bs n3, ne_bs n4, ne_bs n5, ne_bs n6, ne_bs n7]
        refine sContains (ws := [[60], [60, 61], [62], [62, 61]]) (ver := 0) (md := .own) (by (first | (simp (disch := first | omega | (simp only [hN] <;> omega) | fail) only [go_sem, simprocAttr]; done) | (simp (disch := first | omega | (simp only [hN] <;> omega) | fail) only [go_sem, simprocAttr]; rfl))) (by decide) ?_
        have hfr2 : ∀ o, Fr h.n h (h2.alloc o) := fun o => hfr.alloc o
        by_cases n8 : nm ∈ ([[60], [60, 61], [62], [62, 61]] : List Bs)
        · have g8 : List.contains [[60], [60, 61], [62], [62, 61]] nm = true := by simpa using n8
          simp (disch := first | omega | (simp only [hN] <;> omega) | fail) only [go_sem, simprocAttr, k2, k5, k6, k7, b1, insC, g8]
          refine need_spec ?_
          simp only [List.mem_cons, List.not_mem_nil, or_false] at n8
          by_cases q : numT tt
          · rw [if_pos (by simp [q])]
            simp [c10, n3, n4, n5, n6, n7, n8, q] at hQ
            simp (disch := first | omega | (simp only [hN] <;> omega) | fail) only [go_sem, simprocAttr, k2, k5, k6, k7, b1, insC]
            exact hQ _ (hfr2 _)
          · rw [if_neg (by simp [q])]
            simp [c10, n3, n4, n5, n6, n7, n8, q] at hQ
            simp (disch := first | omega | (simp only [hN] <;> omega) | fail) only [go_sem, simprocAttr, k2, k5, k6, k7, b1, insC]
            exact hQ _ (hfr2 _)
        · have g8 : List.contains [[60], [60, 61], [62], [62, 61]] nm = false := by simpa using n8
          simp (disch := first | omega | (simp only [hN] <;> omega) | fail) only [go_sem, simprocAttr, k2, k5, k6, k7, b1, insC, g8]
          refine need_spec ?_
          simp only [List.mem_cons, List.not_mem_nil, or_false] at n8
          by_cases q : numT tt
          · rw [if_pos (by simp [q])]
            simp [c10, n3, n4, n5, n6, n7, n8, q] at hQ
            simp (disch := first | omega | (simp only [hN] <;> omega) | fail) only [go_sem, simprocAttr, k2, k5, k6, k7, b1, insC]
            exact hQ _ (hfr2 _)
          · rw [if_neg (by simp [q])]
            simp [c10, n3, n4, n5, n6, n7, n8, q] at hQ
            simp (disch := first | omega | (simp only [hN] <;> omega) | fail) only [go_sem, simprocAttr, k2, k5, k6, k7, b1, insC]
            exact hQ _ (hfr2 _)
end Go.Ev
