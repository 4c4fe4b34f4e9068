/- Slices that grow; the text's tokens. -/
import Derived.Test.YtccenddkgeglmaaDoorBK8
import Derived.Test.YtccenddkgeglmaaDoorL2
set_option linter.all false
set_option linter.unusedVariables false
set_option linter.unusedSimpArgs false
namespace Go.Ev
open Go
set_option maxRecDepth 100000
set_option maxHeartbeats 4000000

/-- A slice that grows at its end alone: so many elements, their cells. -/
def Sl (es lo : Nat) (h : AHeap) (v : AV) (n : Nat) (cs : List AV) : Prop :=
  cs.length = n * es ∧ ((n = 0 ∧ v = .nilSlice) ∨ (0 < n ∧ ∃ b ver, v = .slice b 0 n n false ∧ lo ≤ b ∧ b < h.n ∧ h.get b = some ⟨ver, .cells .own es cs⟩))
theorem Sl.nil {es lo : Nat} {h : AHeap} : Sl es lo h .nilSlice 0 [] := ⟨by simp, .inl ⟨rfl, rfl⟩⟩
theorem Sl.fr {es lo r n : Nat} {h h' : AHeap} {v : AV} {cs : List AV} (s : Sl es lo h v n cs) (f : Fr r h h') (hr : r < lo ∨ h.n ≤ r) : Sl es lo h' v n cs := by
  obtain ⟨hl, s⟩ := s
  refine ⟨hl, s.imp id ?_⟩
  rintro ⟨hn, b, ver, e, h1, h2, h3⟩
  exact ⟨hn, b, ver, e, h1, Nat.lt_of_lt_of_le h2 f.n, by rw [f.old b h2 (by omega)]; exact h3⟩
theorem Sl.flat {es lo n : Nat} {h : AHeap} {v : AV} {cs : List AV} (s : Sl es lo h v n cs) : v.flat = true ∧ v.cells = [v] := by
  obtain ⟨_, ⟨_, rfl⟩ | ⟨_, b, ver, rfl, _⟩⟩ := s <;> exact ⟨rfl, rfl⟩
theorem Sl.len {es lo n : Nat} {h : AHeap} {v : AV} {cs : List AV} (s : Sl es lo h v n cs) : lenA v = some (n : Int) := by
  obtain ⟨_, ⟨h1, rfl⟩ | ⟨_, b, ver, rfl, _⟩⟩ := s
  · rw [h1]; rfl
  · rfl
theorem Sl.lo {es lo lo' n : Nat} {h : AHeap} {v : AV} {cs : List AV} (s : Sl es lo h v n cs) (hl : lo' ≤ lo) : Sl es lo' h v n cs := by
  obtain ⟨h0, s⟩ := s
  refine ⟨h0, s.imp id ?_⟩
  rintro ⟨hn, b, ver, e, h1, h2⟩
  exact ⟨hn, b, ver, e, Nat.le_trans hl h1, h2⟩
theorem Sl.append {es lo n bytes : Nat} {h : AHeap} {v : AV} {cs new : List AV} (s : Sl es lo h v n cs) (hlo : lo ≤ h.n) (hnew : new.length = es) (hflat : allFlat new = true) (hroom : (n + 1) * bytes ≤ room) (hn : n + 1 ≤ room) :
    ∃ v' h', appendA h es bytes v 1 new = some (v', h') ∧ Sl es lo h' v' (n + 1) (cs ++ new) ∧ h'.n = h.n + 1 ∧ ∀ b, b < lo → h'.get b = h.get b := by
  obtain ⟨hl, ⟨rfl, rfl⟩ | ⟨hpos, b, ver, rfl, h1, h2, h3⟩⟩ := s
  · have hcs : cs = [] := List.length_eq_zero_iff.1 (by simpa using hl)
    subst hcs
    refine ⟨.slice h.n 0 1 1 false, h.alloc (.cells .own es new), ?_, ⟨by simp [hnew], .inr ⟨by omega, h.n, 0, rfl, hlo, by rw [AHeap.alloc_n]; omega, by rw [AHeap.get_alloc, if_pos rfl]; rfl⟩⟩, rfl, fun b hb => by rw [AHeap.get_alloc, if_neg (by omega)]⟩
    simp only [appendA, hnew, hflat, beq_nat, ble_nat, Nat.one_mul, decide_true, Bool.not_true, Bool.or_false, cond_false, Nat.add_one_ne_zero, decide_false, cond_true]
    rw [decide_eq_true (show 1 ≤ room by decide), decide_eq_true (show bytes ≤ room by omega)]
    rfl
  · have hrow : row cs 0 (n * es) = some cs := by
      rw [← hl]
      simp [row, ble_nat]
    refine ⟨.slice h.n 0 (n + 1) (n + 1) false, (h.upd b (ver + 1) .dead).alloc (.cells .own es (cs ++ new)), ?_, ⟨by rw [List.length_append, hl, hnew]; exact (Nat.succ_mul n es).symm, .inr ⟨by omega, h.n, 0, rfl, by omega, by rw [AHeap.alloc_n, AHeap.upd_n]; omega, by rw [AHeap.get_alloc, AHeap.upd_n, if_pos rfl]⟩⟩, rfl, fun b' hb => by rw [AHeap.get_alloc, if_neg (by rw [AHeap.upd_n]; omega), AHeap.get_upd, if_neg (by omega)]⟩
    have e1 : ¬ n + 1 ≤ n := by omega
    have e2 : ¬ n = 0 := by omega
    simp only [appendA, h3, hnew, hflat, hrow, beq_nat, ble_nat, Nat.one_mul, decide_true, Bool.not_true, Bool.or_false, cond_false, Nat.add_one_ne_zero, decide_false, cond_true, e1, e2, decide_eq_true hroom, decide_eq_true hn, Bool.and_true]

def toksAV (ts : List Tok) : List AV := ts.flatMap fun t => (tokAV t).cells
theorem toksAV_snoc (ts : List Tok) (t : Tok) : toksAV ts ++ (tokAV t).cells = toksAV (ts ++ [t]) := by simp [toksAV]
abbrev TokSl (lo : Nat) (h : AHeap) (v : AV) (ts : List Tok) : Prop := Sl 5 lo h v ts.length (toksAV ts)

/-- The closure that takes up a stop. -/
theorem recover_ret {o b : Nat} {h : AHeap} {Q : AHeap → Prop} (hQ : Q h) : WDef F 32 [.ptr o 0, .ptr b 0] .ret h Q := by
  refine WDef.code F32 rfl ?_
  simp (maxSteps := 9999999) (disch := first | omega | (simp only [hN] <;> omega) | fail) only [go_sem, simprocAttr, eqT, eqK]
  exact hQ
theorem recover_stop {o b e p v1 v2 : Nat} {h : AHeap} {x1 x2 x3 : AV} {Q : AHeap → Prop} (ho : h.get o = some ⟨v1, .cells .own 0 [x1]⟩) (hb : h.get b = some ⟨v2, .cells .own 0 [x2, x3]⟩) (hob : o ≠ b) (hon : o < h.n) (hbn : b < h.n)
    (hQ : ∀ h', h.n ≤ h'.n → (∀ c, c < h.n → c ≠ o → c ≠ b → h'.get c = h.get c) → (∃ v, h'.get o = some ⟨v, .cells .own 0 [.nilSlice]⟩) → (∃ v, h'.get b = some ⟨v, .cells .own 0 [errAV e, .int .i64 (p : Int)]⟩) → Q h') :
    WDef F 32 [.ptr o 0, .ptr b 0] (.pan (.iface 60 (.agg [errAV e, .int .i64 (p : Int)]))) h Q := by
  refine WDef.code F32 rfl ?_
  simp (maxSteps := 9999999) (disch := first | omega | (simp only [hN] <;> omega) | fail) only [go_sem, simprocAttr, eqT, eqK, Nat.beq_refl, List.getElem?_cons_zero, ho, hb]
  exact ⟨by have : ¬ h.n = o := by omega
            simp [this], hQ _ (by simp only [AHeap.alloc_n, AHeap.upd_n]; omega) (fun c hc h1 h2 => by simp (maxSteps := 9999999) (disch := first | omega | (simp only [hN] <;> omega) | fail) only [go_sem, simprocAttr]) ⟨v1 + 1, by simp (maxSteps := 9999999) (disch := first | omega | (simp only [hN] <;> omega) | fail) only [go_sem, simprocAttr]⟩ ⟨v2 + 1, by simp (maxSteps := 9999999) (disch := first | omega | (simp only [hN] <;> omega) | fail) only [go_sem, simprocAttr]⟩⟩

def TokensQ (h : AHeap) (Q : QR) : Except Err (List Tok) → Prop
  | .ok ts => ∀ h' v, Fr h.n h h' → TokSl h.n h' v ts → Q (.ret (.tuple [v, .agg [.nilIface, .int .i64 0]])) h'
  | .error (e, p) => ∀ h', Fr h.n h h' → Q (.ret (.tuple [.nilSlice, .agg [errAV e, .int .i64 (p : Int)]])) h'
def catT (ts : List Tok) : Except Err (List Tok) → Except Err (List Tok)
  | .ok us => .ok (ts ++ us)
  | .error e => .error e

theorem tokens_spec {s : Bs} {h : AHeap} (hG : GH h) (hlen : s.length < 2 ^ 62) {Q : QR} (hQ : TokensQ h Q (tokens s)) : WF F 15 [.str s] h Q := by
  refine WF.code F15 rfl ?_
  simp (maxSteps := 9999999) (disch := first | omega | (simp only [hN] <;> omega) | fail) only [go_sem, simprocAttr]
  (first | refine condP_splitN (fun hbig => ?_) (fun hbig => ?_) | refine wantP_splitN (fun hbig => ?_) (fun hbig => ?_) | refine wantPD_splitN (fun hbig => ?_) (fun hbig => ?_) | refine condP_split (fun hbig => ?_) (fun hbig => ?_) | refine wantP_split (fun hbig => ?_) (fun hbig => ?_) | refine wantPD_split (fun hbig => ?_) (fun hbig => ?_))
  · have hb : 8192 < s.length := (by have := of_decide_eq_true hbig; omega)
    have hG1 := (hG.alloc (.cells .own 0 [.nilSlice])).alloc (.cells .own 0 [.nilIface, .int .i64 0])
    simp (maxSteps := 9999999) (disch := first | omega | (simp only [hN] <;> omega) | fail) only [go_sem, simprocAttr, hG1.g0]
    simp only [tokens, if_pos hb, TokensQ] at hQ
    have h0 : ¬ 0 = h.n := by have := hG.n; omega
    exact ⟨by simp [h0], hQ _ ⟨by (first | omega | (simp only [AHeap.alloc_n, AHeap.upd_n]; omega)), fun b hb hne => by (try simp only [AHeap.alloc_n, AHeap.upd_n] at hb hne); simp (maxSteps := 9999999) (disch := first | omega | (simp only [hN] <;> omega) | fail) only [go_sem, simprocAttr]⟩⟩
  · have hb : ¬ 8192 < s.length := (by have := of_decide_eq_false hbig; omega)
    simp (maxSteps := 9999999) (disch := first | omega | (simp only [hN] <;> omega) | fail) only [go_sem, simprocAttr]
    refine skip_spec hlen (RdL.mk' (v := 0) (q := 0) (List.suffix_refl s) (by omega) (by (first | (simp (maxSteps := 9999999) (disch := first | omega | (simp only [hN] <;> omega) | fail) only [go_sem, simprocAttr]; done) | (simp (maxSteps := 9999999) (disch := first | omega | (simp only [hN] <;> omega) | fail) only [go_sem, simprocAttr]; rfl)))) ?_
    intro h1 hrd1 hf1
    have hn1 := hf1.n; try simp only [AHeap.alloc_n, AHeap.upd_n] at hn1
    simp (maxSteps := 9999999) (disch := first | omega | (simp only [hN] <;> omega) | fail) only [go_sem, simprocAttr]
    refine wp_loop (fun n a h2 => ∃ ts l1 ov v2, n = l1.length ∧ TokSl (h.n + 3) h2 ov ts ∧ h2.get h.n = some ⟨v2, .cells .own 0 [ov]⟩ ∧ h2.get (h.n + 1) = some ⟨0, .cells .own 0 [.nilIface, .int .i64 0]⟩ ∧ RdL h2 (h.n + 2) s l1 ∧ (∀ b, b < h.n → h2.get b = h.get b) ∧ h.n + 3 ≤ h2.n ∧ ts.length ≤ 2000 ∧ (∃ f, l1.length < f ∧ tokens s = catT ts (toksL s.length f l1 ts.length)) ∧ a.tm.get 0 = some (.str s) ∧ a.tm.get 2 = some (.ptr h.n 0) ∧ a.tm.get 3 = some (.ptr (h.n + 1) 0) ∧ a.tm.get 4 = some (.ptr (h.n + 2) 0) ∧ a.df = [(32, [.ptr h.n 0, .ptr (h.n + 1) 0])]) ?_ (skip s).length ?_
    · rintro n ⟨t, df⟩ h2 ⟨ts, l1, ov, v2, hn, hts, hb0, hb1, hrd, hold, hn2, hcount, ⟨f, hf, htk⟩, k0, k2, k3, k4, hdf⟩
      simp only at k0 k2 k3 k4 hdf
      subst hdf
      obtain ⟨p, ver, hp, hpl, hr, hd, hc⟩ := hrd.pos
      have hfr2 : Fr h.n h h2 := ⟨by omega, fun b hb _ => hold b hb⟩
      have hG2 : GH h2 := hfr2.gh hG.n hG
      have hlen2 := hts.len
      have hcell := hts.flat.2
      have hflat := hts.flat.1
      obtain ⟨f, rfl⟩ : ∃ g, f = g + 1 := ⟨f - 1, by omega⟩
      simp only [toksL] at htk
      simp (maxSteps := 9999999) (disch := first | omega | (simp only [hN] <;> omega) | fail) only [go_sem, simprocAttr, k0, k4, hr]
      (first | refine condP_splitN (fun hlt => ?_) (fun hlt => ?_) | refine wantP_splitN (fun hlt => ?_) (fun hlt => ?_) | refine wantPD_splitN (fun hlt => ?_) (fun hlt => ?_) | refine condP_split (fun hlt => ?_) (fun hlt => ?_) | refine wantP_split (fun hlt => ?_) (fun hlt => ?_) | refine wantPD_split (fun hlt => ?_) (fun hlt => ?_))
      · have hlt' : p < s.length := (by have := of_decide_eq_true hlt; omega)
        have hne : l1 ≠ [] := by intro e; subst e; simp only [List.length_nil] at hpl; omega
        rw [if_neg hne] at htk
        simp (maxSteps := 9999999) (disch := first | omega | (simp only [hN] <;> omega) | fail) only [go_sem, simprocAttr, k2, hb0, hlen2]
        (first | refine condP_splitN (fun hmany => ?_) (fun hmany => ?_) | refine wantP_splitN (fun hmany => ?_) (fun hmany => ?_) | refine wantPD_splitN (fun hmany => ?_) (fun hmany => ?_) | refine condP_split (fun hmany => ?_) (fun hmany => ?_) | refine wantP_split (fun hmany => ?_) (fun hmany => ?_) | refine wantPD_split (fun hmany => ?_) (fun hmany => ?_))
        · have hm : ts.length = 2000 := by have : (ts.length : Int) = 2000 := by simpa using hmany
                                           omega
          rw [if_pos hm, hp] at htk
          rw [htk] at hQ
          simp (maxSteps := 9999999) (disch := first | omega | (simp only [hN] <;> omega) | fail) only [go_sem, simprocAttr, k4, hG2.g0, hr]
          refine stop_spec ?_
          simp (maxSteps := 9999999) (disch := first | omega | (simp only [hN] <;> omega) | fail) only [go_sem, simprocAttr]
          refine recover_stop (e := 6) (p := p) hb0 hb1 (by omega) (by omega) (by omega) ?_
          intro h3 hn3 hold3 ⟨v4, ho⟩ ⟨v5, hbb⟩
          simp (maxSteps := 9999999) (disch := first | omega | (simp only [hN] <;> omega) | fail) only [go_sem, simprocAttr, k2, k3, ho, hbb]
          exact hQ _ ⟨by omega, fun b hb hne => by rw [hold3 b (by omega) (by omega) (by omega), hold b hb]⟩
        · have hm : ¬ ts.length = 2000 := by have : ¬ (ts.length : Int) = 2000 := by simpa using hmany
                                             omega
          rw [if_neg hm] at htk
          simp (maxSteps := 9999999) (disch := first | omega | (simp only [hN] <;> omega) | fail) only [go_sem, simprocAttr, k2, k4, hb0]
          refine next_spec hG2 (by have := hG.n; omega) (by omega) hlen hrd hne ?_
          cases hnx : nextTok s.length l1 with
          | error x =>
            obtain ⟨e9, q9⟩ := x
            rw [hnx] at htk
            simp only [catT] at htk
            rw [htk] at hQ
            intro h3 hf3
            have hn3 := hf3.n; try simp only [AHeap.alloc_n, AHeap.upd_n] at hn3
            simp (maxSteps := 9999999) (disch := first | omega | (simp only [hN] <;> omega) | fail) only [go_sem, simprocAttr, hf3.old, hb0]
            refine recover_stop (e := e9) (p := q9) (by rw [hf3.old _ (by omega) (by omega)]; exact hb0) (by rw [hf3.old _ (by omega) (by omega)]; exact hb1) (by omega) (by omega) (by omega) ?_
            intro h4 hn4 hold4 ⟨v4, ho⟩ ⟨v5, hbb⟩
            simp (maxSteps := 9999999) (disch := first | omega | (simp only [hN] <;> omega) | fail) only [go_sem, simprocAttr, k2, k3, ho, hbb]
            exact hQ _ ⟨by omega, fun b hb hne => by rw [hold4 b (by omega) (by omega) (by omega), hf3.old b (by omega) (by omega), hold b hb]⟩
          | ok x =>
            obtain ⟨tk, l2⟩ := x
            rw [hnx] at htk
            simp only at htk
            intro h3 hrd3 hf3
            have hn3 := hf3.n; try simp only [AHeap.alloc_n, AHeap.upd_n] at hn3
            have hts3 := (hts.fr hf3 (.inl (by omega))).fr (Fr.alloc (Fr.refl 0 h3) (.cells .own 5 (tokAV tk).cells)) (.inl (by omega))
            obtain ⟨v3, h4, happ, hts4, hn4, hold4⟩ := Sl.append hts3 (bytes := 48) (new := (tokAV tk).cells) (by simp only [AHeap.alloc_n]; omega) rfl rfl (by simp only [room]; omega) (by simp only [room]; omega)
            rw [toksAV_snoc, show ts.length + 1 = (ts ++ [tk]).length by simp] at hts4
            have hcell4 := hts4.flat.2
            have hflat4 := hts4.flat.1
            simp only [AHeap.alloc_n] at hn4
            have hb04 : h4.get h.n = some ⟨v2, .cells .own 0 [ov]⟩ := by rw [hold4 _ (by omega)]; simp (maxSteps := 9999999) (disch := first | omega | (simp only [hN] <;> omega) | fail) only [go_sem, simprocAttr, hf3.old, hb0]
            have hb14 : h4.get (h.n + 1) = some ⟨0, .cells .own 0 [.nilIface, .int .i64 0]⟩ := by rw [hold4 _ (by omega)]; simp (maxSteps := 9999999) (disch := first | omega | (simp only [hN] <;> omega) | fail) only [go_sem, simprocAttr, hf3.old, hb1]
            have hrd4 : RdL h4 (h.n + 2) s l2 := hrd3.of (by rw [hold4 _ (by omega)]; simp (maxSteps := 9999999) (disch := first | omega | (simp only [hN] <;> omega) | fail) only [go_sem, simprocAttr])
            simp (maxSteps := 9999999) (disch := first | omega | (simp only [hN] <;> omega) | fail) only [go_sem, simprocAttr, tokAV] at happ
            simp (maxSteps := 9999999) (disch := first | omega | (simp only [hN] <;> omega) | fail) only [go_sem, simprocAttr, hf3.old, hb0, tokAV, happ, hb04, hcell4, hflat4, k2, k4]
            refine skip_spec hlen (hrd4.of (by simp (maxSteps := 9999999) (disch := first | omega | (simp only [hN] <;> omega) | fail) only [go_sem, simprocAttr])) ?_
            intro h5 hrd5 hf5
            have hn5 := hf5.n; try simp only [AHeap.alloc_n, AHeap.upd_n] at hn5
            have hts5 := (hts4.fr (Fr.upd (r := h.n) h4 (v2 + 1) (.cells .own 0 [v3])) (.inl (by omega))).fr hf5 (.inl (by omega))
            have hl2 := nextTok_len hnx
            have hl3 := (skip_suf l2).length_le
            simp (maxSteps := 9999999) (disch := first | omega | (simp only [hN] <;> omega) | fail) only [go_sem, simprocAttr, k0, k2, k3, k4, hf5.old, hb14]
            refine ⟨_, ?_, ts ++ [tk], skip l2, v3, v2 + 1, rfl, hts5, rfl, hrd5, ?_, by omega, by simp only [List.length_append, List.length_cons, List.length_nil]; omega, f, by omega, ?_⟩
            · omega
            · intro b hb
              simp (maxSteps := 9999999) (disch := first | omega | (simp only [hN] <;> omega) | fail) only [go_sem, simprocAttr, hf5.old]
              rw [hold4 b (by omega)]
              simp (maxSteps := 9999999) (disch := first | omega | (simp only [hN] <;> omega) | fail) only [go_sem, simprocAttr, hf3.old]
              exact hold b hb
            · rw [htk]
              simp only [List.length_append, List.length_cons, List.length_nil, Nat.zero_add]
              cases toksL s.length f (skip l2) (ts.length + 1) with
              | ok us => simp only [catT, List.append_assoc, List.cons_append, List.nil_append]
              | error e => rfl
      · have hl0 : l1 = [] := List.length_eq_zero_iff.1 (by have := of_decide_eq_false hlt; omega)
        rw [if_pos hl0] at htk
        simp only [catT, List.append_nil] at htk
        rw [htk] at hQ
        simp (maxSteps := 9999999) (disch := first | omega | (simp only [hN] <;> omega) | fail) only [go_sem, simprocAttr, k2, k3, hb0, hb1, hcell, hflat]
        refine recover_ret ?_
        simp (maxSteps := 9999999) (disch := first | omega | (simp only [hN] <;> omega) | fail) only [go_sem, simprocAttr, k2, k3]
        refine hQ _ _ ⟨by (first | omega | (simp only [AHeap.alloc_n, AHeap.upd_n]; omega)), fun b hb hne => by (try simp only [AHeap.alloc_n, AHeap.upd_n] at hb hne); simp (maxSteps := 9999999) (disch := first | omega | (simp only [hN] <;> omega) | fail) only [go_sem, simprocAttr, hold]⟩ (((hts.fr (Fr.upd (r := h.n) h2 (v2 + 1) (.cells .own 0 [ov])) (.inl (by omega))).fr (Fr.upd (r := h.n + 1) _ 1 (.cells .own 0 [.nilIface, .int .i64 0])) (.inl (by omega))).lo (by omega))
    · simp (maxSteps := 9999999) (disch := first | omega | (simp only [hN] <;> omega) | fail) only [go_sem, simprocAttr, hf1.old]
      exact ⟨[], skip s, .nilSlice, 0, rfl, Sl.nil, rfl, hrd1, fun b hb => by simp (maxSteps := 9999999) (disch := first | omega | (simp only [hN] <;> omega) | fail) only [go_sem, simprocAttr, hf1.old], by omega, by simp, ⟨s.length + 1, by have := (skip_suf s).length_le; omega, by simp only [tokens, if_neg hb, List.length_nil]; cases toksL s.length (s.length + 1) (skip s) 0 <;> rfl⟩, rfl⟩
end Go.Ev
