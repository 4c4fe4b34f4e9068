/- Proofread: slices that grow; the statement on jumps back. -/
import Derived.Test.YtjfagfoekpnofaaDoorPP11
import Derived.Test.YtjfagfoekpnofaaDoorPuA
set_option linter.all false
set_option linter.unusedVariables false
set_option linter.unusedSimpArgs false
namespace Go.Ev
open Go
set_option maxRecDepth 100000
set_option maxHeartbeats 4000000

/-- A slice that grows at its end alone: so many elements, their cells. -/
def Sl (es lo : Nat) (h : AHeap) (v : AV) (n : Nat) (cs : List AV) : Prop :=
  cs.length = n * es ∧ ((n = 0 ∧ v = .nilSlice) ∨ (0 < n ∧ ∃ b ver, v = .slice b 0 n n false ∧ lo ≤ b ∧ b < h.n ∧ h.get b = some ⟨ver, .cells .own es cs⟩))
theorem Sl.nil {es lo : Nat} {h : AHeap} : Sl es lo h .nilSlice 0 [] := ⟨by simp, .inl ⟨rfl, rfl⟩⟩
theorem Sl.fr {es lo r n : Nat} {h h' : AHeap} {v : AV} {cs : List AV} (s : Sl es lo h v n cs) (f : Fr r h h') (hr : r < lo ∨ h.n ≤ r) : Sl es lo h' v n cs := by
  obtain ⟨hl, s⟩ := s
  refine ⟨hl, s.imp id ?_⟩
  rintro ⟨hn, b, ver, e, h1, h2, h3⟩
  exact ⟨hn, b, ver, e, h1, Nat.lt_of_lt_of_le h2 f.n, by rw [f.old b h2 (by omega)]; exact h3⟩
theorem Sl.flat {es lo n : Nat} {h : AHeap} {v : AV} {cs : List AV} (s : Sl es lo h v n cs) : v.flat = true ∧ v.cells = [v] := by
  obtain ⟨_, ⟨_, rfl⟩ | ⟨_, b, ver, rfl, _⟩⟩ := s <;> exact ⟨rfl, rfl⟩
theorem Sl.len {es lo n : Nat} {h : AHeap} {v : AV} {cs : List AV} (s : Sl es lo h v n cs) : lenA v = some (n : Int) := by
  obtain ⟨_, ⟨h1, rfl⟩ | ⟨_, b, ver, rfl, _⟩⟩ := s
  · rw [h1]; rfl
  · rfl
theorem Sl.lo {es lo lo' n : Nat} {h : AHeap} {v : AV} {cs : List AV} (s : Sl es lo h v n cs) (hl : lo' ≤ lo) : Sl es lo' h v n cs := by
  obtain ⟨h0, s⟩ := s
  refine ⟨h0, s.imp id ?_⟩
  rintro ⟨hn, b, ver, e, h1, h2⟩
  exact ⟨hn, b, ver, e, Nat.le_trans hl h1, h2⟩
theorem Sl.append {es lo n k bytes : Nat} {h : AHeap} {v : AV} {cs new : List AV} (s : Sl es lo h v n cs) (hk : 0 < k) (hlo : lo ≤ h.n) (hnew : new.length = k * es) (hflat : allFlat new = true) (hroom : (n + k) * bytes ≤ room) (hn : n + k ≤ room) (hkr : k * bytes ≤ room) :
    ∃ v' h', appendA h es bytes v k new = some (v', h') ∧ Sl es lo h' v' (n + k) (cs ++ new) ∧ h'.n = h.n + 1 ∧ ∀ b, b < lo → h'.get b = h.get b := by
  have k0 : ¬ k = 0 := by omega
  obtain ⟨hl, ⟨rfl, rfl⟩ | ⟨hpos, b, ver, rfl, h1, h2, h3⟩⟩ := s
  · have hcs : cs = [] := List.length_eq_zero_iff.1 (by simpa using hl)
    subst hcs
    refine ⟨.slice h.n 0 k k false, h.alloc (.cells .own es new), ?_, ⟨by simp [hnew], .inr ⟨by omega, h.n, 0, by rw [Nat.zero_add], hlo, by rw [AHeap.alloc_n]; omega, by rw [AHeap.get_alloc, if_pos rfl]; rfl⟩⟩, rfl, fun b hb => by rw [AHeap.get_alloc, if_neg (by omega)]⟩
    simp only [appendA, hnew, hflat, beq_nat, ble_nat, decide_true, Bool.not_true, Bool.or_false, cond_false, k0, decide_false, cond_true]
    rw [decide_eq_true (show k ≤ room by omega), decide_eq_true hkr]
    rfl
  · have hrow : row cs 0 (n * es) = some cs := row_all hl
    refine ⟨.slice h.n 0 (n + k) (n + k) false, (h.upd b (ver + 1) .dead).alloc (.cells .own es (cs ++ new)), ?_, ⟨by rw [List.length_append, hl, hnew, Nat.add_mul], .inr ⟨by omega, h.n, 0, rfl, by omega, by rw [AHeap.alloc_n, AHeap.upd_n]; omega, by rw [AHeap.get_alloc, AHeap.upd_n, if_pos rfl]⟩⟩, rfl, fun b' hb => by rw [AHeap.get_alloc, AHeap.upd_n, if_neg (by omega), AHeap.get_upd, if_neg (by omega)]⟩
    have e1 : ¬ n + k ≤ n := by omega
    have e2 : ¬ n = 0 := by omega
    simp only [appendA, h3, hnew, hflat, hrow, beq_nat, ble_nat, decide_true, Bool.not_true, Bool.or_false, cond_false, k0, decide_false, cond_true, e1, e2, decide_eq_true hroom, decide_eq_true hn, Bool.and_true]
theorem Sl.slv {es lo n : Nat} {h : AHeap} {v : AV} {cs : List AV} (s : Sl es lo h v n cs) (hn : n < 2 ^ 61) : SlV h es n cs v := by
  obtain ⟨hl, ⟨rfl, rfl⟩ | ⟨hpos, b, ver, rfl, h1, h2, h3⟩⟩ := s
  · have hcs : cs = [] := List.length_eq_zero_iff.1 (by simpa using hl)
    rw [hcs]; exact .nil
  · exact slv_row hpos hn hl h2 h3
theorem wr_nn (p : Int) : 0 ≤ wr .u64 p := by
  unfold wr
  cases hf : fits .u64 p with
  | true => simp [fits] at hf; exact hf.1
  | false =>
    show 0 ≤ IntKind.wrap .u64 p
    simp only [IntKind.wrap]
    have : IntKind.signed .u64 = false := rfl
    rw [this]
    simp only [Bool.false_and, Bool.false_eq_true, if_false]
    exact Int.emod_nonneg _ (by decide)
theorem wrapN (p : Int) (m : Nat) (h0 : 0 < m) (hm : m < 2 ^ 62) : ∃ i : Nat, i < m ∧ wr .i64 ((wr .u64 p).tmod (m : Int)) = (i : Int) := by
  have h := wr_nn p
  generalize wr .u64 p = x at h
  rw [Int.tmod_eq_emod_of_nonneg h]
  have h1 := Int.emod_nonneg x (b := (m : Int)) (by omega)
  have h2 := Int.emod_lt_of_pos x (b := (m : Int)) (by omega)
  refine ⟨(x % (m : Int)).toNat, by omega, ?_⟩
  rw [wr_i64 (by omega) (by omega)]
  omega
theorem eqB {a b : Bool} : eqT (.one .bool) (.bool a) (.bool b) = some (a == b) := rfl
theorem loops_law {p q s : Int} {h : AHeap} (hG : GH h) : WF F 4 [.int .i64 p, .int .i64 q, .int .i64 s] h (fun r _ => r = .ret (.bool true)) := by
  refine WF.code F4 rfl ?_
  simp (disch := first | omega | (simp only [hN] <;> omega) | fail) only [go_sem, simprocAttr]
  refine alive_spec hG ?_
  intro h1 hf1
  have hn1 := hf1.n; try simp only [hN] at hn1
  have hG1 := hf1.gh hG.n hG
  obtain ⟨i, hi, ei⟩ := wrapN p 30 (by decide) (by decide)
  obtain ⟨N, hNi⟩ : ∃ N, N = i + 1 := ⟨_, rfl⟩
  have eM : (2 : Int) + (i : Int) = ((N + 1 : Nat) : Int) := by omega
  have eM1 : (((N + 1 : Nat) : Int)) - 1 = (N : Int) := by omega
  obtain ⟨f, hf, ef⟩ := wrapN q N (by omega) (by omega)
  obtain ⟨t, ht, et⟩ := wrapN s (N + 1) (by omega) (by omega)
  have ei' : wr .i64 ((wr .u64 p).tmod 30) = (i : Int) := ei
  simp (disch := first | omega | (simp only [hN] <;> omega) | fail) only [go_sem, simprocAttr, ei', eM, eM1, ef, et]
  generalize hHH : AHeap.upd (AHeap.alloc (AHeap.alloc h1 _) _) _ _ _ = H
  have hHn : H.n = h1.n + 2 := by rw [← hHH]; simp (disch := first | omega | (simp only [hN] <;> omega) | fail) only [go_sem, simprocAttr]
  have bF : H.get h1.n = some ⟨0, .cells .own 3 [.int .i64 0, .int .i64 0, .nilSlice]⟩ := by rw [← hHH]; simp (disch := first | omega | (simp only [hN] <;> omega) | fail) only [go_sem, simprocAttr]
  have bC : H.get (h1.n + 1) = some ⟨1, .cells .own 0 [.nilSlice, .int .i64 1, .int .i64 0, .nilSlice, .slice h1.n 0 1 1 true, .int .i64 0, .nilSlice]⟩ := by rw [← hHH]; simp (disch := first | omega | (simp only [hN] <;> omega) | fail) only [go_sem, simprocAttr]
  have hF : Fr h1.n h1 H := by
    rw [← hHH]
    exact (((Fr.refl _ _).alloc _).alloc _).updNew (by omega) _ _
  have hGH := hF.gh hG1.n hG1
  have hGn := hG1.n
  clear hHH hf1 hG1
  generalize h1.n = B at *
  refine wp_loopx 0 (fun m a h' => ∃ (i : Nat) (v : AV) (ver : Nat), m = N + 1 - i ∧ i ≤ N + 1 ∧ B + 2 ≤ h'.n ∧ (∀ b, b < B + 1 → h'.get b = H.get b) ∧ h'.get (B + 1) = some ⟨ver, .cells .own 0 [.nilSlice, .int .i64 1, .int .i64 0, .nilSlice, .slice B 0 1 1 true, .int .i64 0, v]⟩ ∧ Sl 5 (B + 2) h' v i (((loopB N f t).take i).flatMap insC) ∧ a.tm.get 0 = some (.int .i64 ((N + 1 : Nat) : Int)) ∧ a.tm.get 1 = some (.int .i64 (f : Int)) ∧ a.tm.get 2 = some (.int .i64 (t : Int)) ∧ a.tm.get 7 = some (.ptr (B + 1) 0) ∧ a.tm.get 33 = some (.int .i64 ((N + 1 : Nat) : Int)) ∧ a.tm.get 34 = some (.int .i64 (i : Int)) ∧ a.df = [])
    (fun a h' => ∃ (v : AV) (ver : Nat), B + 2 ≤ h'.n ∧ (∀ b, b < B + 1 → h'.get b = H.get b) ∧ h'.get (B + 1) = some ⟨ver, .cells .own 0 [.nilSlice, .int .i64 1, .int .i64 0, .nilSlice, .slice B 0 1 1 true, .int .i64 0, v]⟩ ∧ Sl 5 (B + 2) h' v (N + 1) ((loopB N f t).flatMap insC) ∧ a.tm.get 1 = some (.int .i64 (f : Int)) ∧ a.tm.get 2 = some (.int .i64 (t : Int)) ∧ a.tm.get 7 = some (.ptr (B + 1) 0) ∧ a.df = []) ?_ ?_ (N + 1) ?_
  · rintro m ⟨tt, df⟩ h2 ⟨j, v, ver, hm, hj, hB, ho, hc, hs, k0, k1, k2, k7, k33, k34, hdf⟩
    simp only at k0 k1 k2 k7 k33 k34 hdf
    subst hdf
    by_cases hjl : j < N + 1
    · have i2 : decide ((j : Int) < ((N + 1 : Nat) : Int)) = true := decide_eq_true (by omega)
      have jN : ((j : Int) + 1) = ((j + 1 : Nat) : Int) := by omega
      simp (disch := first | omega | (simp only [hN] <;> omega) | fail) only [go_sem, simprocAttr, k0, k1, k2, k7, k33, k34, i2]
      refine cond_cut (fun a h' => ∃ ver2, h'.get h2.n = some ⟨ver2, .cells .own 0 [.int .i64 (if j % 2 = 0 then 24 else 15), .int .i64 0, .int .i64 0, .int .u64 0, .int .i64 0]⟩ ∧ h'.n = h2.n + 1 ∧ (∀ b, b < h2.n → h'.get b = h2.get b) ∧ a.tm.get 0 = some (.int .i64 ((N + 1 : Nat) : Int)) ∧ a.tm.get 1 = some (.int .i64 (f : Int)) ∧ a.tm.get 2 = some (.int .i64 (t : Int)) ∧ a.tm.get 7 = some (.ptr (B + 1) 0) ∧ a.tm.get 8 = some (.int .i64 (j : Int)) ∧ a.tm.get 9 = some (.ptr h2.n 0) ∧ a.tm.get 33 = some (.int .i64 ((N + 1 : Nat) : Int)) ∧ a.tm.get 34 = some (.int .i64 (j : Int)) ∧ a.df = []) ?_ ?_
      · by_cases ep : j % 2 = 0
        · have g : ((j : Int) % 2 == 0) = true := by simp; omega
          simp (disch := first | omega | (simp only [hN] <;> omega) | fail) only [go_sem, simprocAttr, k0, k1, k2, k7, k33, k34, g]
          refine ⟨2, ?_, fun b hb => ?_⟩
          · simp [ep]
          · simp (disch := first | omega | (simp only [hN] <;> omega) | fail) only [go_sem, simprocAttr]
        · have g : ((j : Int) % 2 == 0) = false := by simp; omega
          simp (disch := first | omega | (simp only [hN] <;> omega) | fail) only [go_sem, simprocAttr, k0, k1, k2, k7, k33, k34, g]
          refine ⟨1, ?_, fun b hb => ?_⟩
          · simp [ep]
          · simp (disch := first | omega | (simp only [hN] <;> omega) | fail) only [go_sem, simprocAttr]
      clear k0 k1 k2 k7 k33 k34
      rintro ⟨tt, df⟩ h3 ⟨ver2, hx, hn3, ho3, k0, k1, k2, k7, k8, k9, k33, k34, hdf⟩
      simp only at k0 k1 k2 k7 k8 k9 k33 k34 hdf
      subst hdf
      simp (disch := first | omega | (simp only [hN] <;> omega) | fail) only [go_sem, simprocAttr, k0, k1, k2, k7, k8, k9, k33, k34, eM1]
      refine cond_cut (fun a h' => ∃ ver2, h'.get h2.n = some ⟨ver2, .cells .own 0 [.int .i64 (if j = N then 25 else if j % 2 = 0 then 24 else 15), .int .i64 0, .int .i64 0, .int .u64 0, .int .i64 0]⟩ ∧ h'.n = h2.n + 1 ∧ (∀ b, b < h2.n → h'.get b = h2.get b) ∧ a.tm.get 0 = some (.int .i64 ((N + 1 : Nat) : Int)) ∧ a.tm.get 1 = some (.int .i64 (f : Int)) ∧ a.tm.get 2 = some (.int .i64 (t : Int)) ∧ a.tm.get 7 = some (.ptr (B + 1) 0) ∧ a.tm.get 8 = some (.int .i64 (j : Int)) ∧ a.tm.get 9 = some (.ptr h2.n 0) ∧ a.tm.get 33 = some (.int .i64 ((N + 1 : Nat) : Int)) ∧ a.tm.get 34 = some (.int .i64 (j : Int)) ∧ a.df = []) ?_ ?_
      · by_cases ep : j = N
        · have g : ((j : Int) == (N : Int)) = true := by simp; omega
          simp (disch := first | omega | (simp only [hN] <;> omega) | fail) only [go_sem, simprocAttr, k0, k1, k2, k7, k8, k9, k33, k34, g, hx]
          refine ⟨ver2 + 1, ?_, ?_, fun b hb => ?_⟩
          · simp [ep]
          · exact hn3
          · simp (disch := first | omega | (simp only [hN] <;> omega) | fail) only [go_sem, simprocAttr, ho3]
        · have g : ((j : Int) == (N : Int)) = false := by simp; omega
          simp (disch := first | omega | (simp only [hN] <;> omega) | fail) only [go_sem, simprocAttr, k0, k1, k2, k7, k8, k9, k33, k34, g]
          exact ⟨ver2, by rw [hx]; simp [ep], hn3, ho3⟩
      clear k0 k1 k2 k7 k8 k9 k33 k34 hx hn3 ho3
      rintro ⟨tt, df⟩ h3 ⟨ver2, hx, hn3, ho3, k0, k1, k2, k7, k8, k9, k33, k34, hdf⟩
      simp only at k0 k1 k2 k7 k8 k9 k33 k34 hdf
      subst hdf
      simp (disch := first | omega | (simp only [hN] <;> omega) | fail) only [go_sem, simprocAttr, k0, k1, k2, k7, k8, k9, k33, k34]
      refine cond_cut (fun a h' => ∃ ver2, h'.get h2.n = some ⟨ver2, .cells .own 0 (insC (loopIns N f t j))⟩ ∧ h'.n = h2.n + 1 ∧ (∀ b, b < h2.n → h'.get b = h2.get b) ∧ a.tm.get 0 = some (.int .i64 ((N + 1 : Nat) : Int)) ∧ a.tm.get 1 = some (.int .i64 (f : Int)) ∧ a.tm.get 2 = some (.int .i64 (t : Int)) ∧ a.tm.get 7 = some (.ptr (B + 1) 0) ∧ a.tm.get 8 = some (.int .i64 (j : Int)) ∧ a.tm.get 9 = some (.ptr h2.n 0) ∧ a.tm.get 33 = some (.int .i64 ((N + 1 : Nat) : Int)) ∧ a.tm.get 34 = some (.int .i64 (j : Int)) ∧ a.df = []) ?_ ?_
      · by_cases ep : j = f
        · have g : ((j : Int) == (f : Int)) = true := by simp; omega
          simp (disch := first | omega | (simp only [hN] <;> omega) | fail) only [go_sem, simprocAttr, k0, k1, k2, k7, k8, k9, k33, k34, g, hx]
          refine ⟨ver2 + 1, ?_, ?_, fun b hb => ?_⟩
          · simp [ep, insC, loopIns]
          · exact hn3
          · simp (disch := first | omega | (simp only [hN] <;> omega) | fail) only [go_sem, simprocAttr, ho3]
        · have g : ((j : Int) == (f : Int)) = false := by simp; omega
          simp (disch := first | omega | (simp only [hN] <;> omega) | fail) only [go_sem, simprocAttr, k0, k1, k2, k7, k8, k9, k33, k34, g]
          exact ⟨ver2, by rw [hx]; simp [ep, insC, loopIns], hn3, ho3⟩
      clear k0 k1 k2 k7 k8 k9 k33 k34 hx hn3 ho3
      rintro ⟨tt, df⟩ h3 ⟨ver2, hx, hn3, ho3, k0, k1, k2, k7, k8, k9, k33, k34, hdf⟩
      simp only at k0 k1 k2 k7 k8 k9 k33 k34 hdf
      subst hdf
      have hc3 := (ho3 (B + 1) (by omega)).trans hc
      have hs3 : Sl 5 (B + 2) (h3.alloc (.cells .own 5 (insC (loopIns N f t j)))) v j (((loopB N f t).take j).flatMap insC) := by
        obtain ⟨y1, y2⟩ := hs
        refine ⟨y1, y2.imp id ?_⟩
        rintro ⟨y3, b, vr, e, y4, y5, y6⟩
        exact ⟨y3, b, vr, e, y4, by simp (disch := first | omega | (simp only [hN] <;> omega) | fail) only [go_sem, simprocAttr]; omega, by simp (disch := first | omega | (simp only [hN] <;> omega) | fail) only [go_sem, simprocAttr, ho3]; exact y6⟩
      have hl5 : (insC (loopIns N f t j)).length = 1 * 5 := rfl
      obtain ⟨v6, h6, happ, hs6, hn6, ho6⟩ := hs3.append (k := 1) (bytes := 40) (new := insC (loopIns N f t j)) (by decide) (by simp (disch := first | omega | (simp only [hN] <;> omega) | fail) only [go_sem, simprocAttr]; omega) hl5 rfl (by simp only [room]; omega) (by simp only [room]; omega) (by decide)
      have hsf := hs3.flat
      have hsf6 := hs6.flat
      have hc6 : h6.get (B + 1) = some ⟨ver, .cells .own 0 [.nilSlice, .int .i64 1, .int .i64 0, .nilSlice, .slice B 0 1 1 true, .int .i64 0, v]⟩ := by rw [ho6 _ (by omega)]; simp (disch := first | omega | (simp only [hN] <;> omega) | fail) only [go_sem, simprocAttr, hc3]
      simp only [insC] at happ hx
      simp only [hN] at hn6
      simp (disch := first | omega | (simp only [hN] <;> omega) | fail) only [go_sem, simprocAttr, k0, k1, k2, k7, k8, k9, k33, k34, hx, hc3, hc6, happ, hsf.1, hsf.2, hsf6.1, hsf6.2, jN]
      have hjl2 : j < (loopB N f t).length := by rw [loopB_len]; exact hjl
      have htk : ((loopB N f t).take (j + 1)).flatMap insC = ((loopB N f t).take j).flatMap insC ++ insC (loopIns N f t j) := by
        have hg : (loopB N f t)[j]? = some (loopIns N f t j) := by
          have := loopB_at (N := N) (f := f) (t := t) (i := j) (by omega)
          rw [List.getD_eq_getElem?_getD, List.getElem?_eq_getElem hjl2] at this
          rw [List.getElem?_eq_getElem hjl2]
          simpa using this
        rw [List.take_add_one, hg, List.flatMap_append]
        simp
      refine ⟨N + 1 - (j + 1), by omega, j + 1, v6, ver + 1, rfl, by omega, by omega, fun b hb => ?_, rfl, ?_, rfl⟩
      · have : b ≠ B + 1 := by omega
        simp (disch := first | omega | (simp only [hN] <;> omega) | fail) only [go_sem, simprocAttr, ho6 b (show b < B + 2 by omega), ho3]
        exact ho b hb
      · rw [htk]
        exact hs6.fr (Fr.upd _ _ _) (.inl (by omega))
    · have i2 : decide ((j : Int) < ((N + 1 : Nat) : Int)) = false := decide_eq_false (by omega)
      simp (disch := first | omega | (simp only [hN] <;> omega) | fail) only [go_sem, simprocAttr, k0, k1, k2, k7, k33, k34, i2]
      obtain rfl : j = N + 1 := by omega
      rw [List.take_of_length_le (by rw [loopB_len]; exact Nat.le_refl _)] at hs
      exact ⟨v, ver, hB, ho, hc, hs⟩
  · rintro ⟨tt, df⟩ h2 ⟨v, ver, hB, ho, hc, hs, k1, k2, k7, hdf⟩
    simp only at k1 k2 k7 hdf
    subst hdf
    have hsf := hs.flat
    simp (disch := first | omega | (simp only [hN] <;> omega) | fail) only [go_sem, simprocAttr, k1, k2, k7, hc, hsf.1, hsf.2]
    have hFb := (ho B (by omega)).trans bF
    have hC2 : CdV h2 (loopC N f t) .nilSlice .nilSlice (.slice B 0 1 1 true) v := cdv_one (ver := 0) rfl rfl ⟨.nil, .inl rfl⟩ (by
      have := hs.slv (by omega)
      rw [← loopB_len (N := N) (f := f) (t := t)] at this
      exact this) (by omega) hFb
    have hG2 : GH h2 := ⟨by omega, fun g hg => by rw [ho g (by omega)]; exact hGH.gl g hg, fun g hg => by rw [ho _ (by omega)]; exact hGH.st g hg⟩
    refine pcheck_spec (c := loopC N f t) hG2 hC2 ?_
    intro h3 hf3
    have hpure := loops_pure (N := N) (f := f) (t := t) (by omega) (by omega) hf (by omega)
    rw [hpure]
    by_cases c1 : f < t
    · have g1 : decide ((t : Int) > (f : Int)) = true := decide_eq_true (by omega)
      rw [if_pos (by simp [c1])]
      simp (disch := first | omega | (simp only [hN] <;> omega) | fail) only [go_sem, simprocAttr, k1, k2, k7, g1, eqT_nil, eqB, beq_self_eq_true]
    · have g1 : decide ((t : Int) > (f : Int)) = false := decide_eq_false (by omega)
      by_cases c2 : t < f
      · have g2 : decide ((t : Int) < (f : Int)) = true := decide_eq_true (by omega)
        by_cases c3 : t % 2 = 0
        · have g3 : ((t : Int) % 2 == 0) = true := by simp; omega
          rw [if_pos (by simp [c2, c3])]
          simp (disch := first | omega | (simp only [hN] <;> omega) | fail) only [go_sem, simprocAttr, k1, k2, k7, g1, g2, g3, eqT_nil, eqB, beq_self_eq_true]
        · have g3 : ((t : Int) % 2 == 0) = false := by simp; omega
          rw [if_neg (by simp [c1, c3])]
          simp (disch := first | omega | (simp only [hN] <;> omega) | fail) only [go_sem, simprocAttr, k1, k2, k7, g1, g2, g3, eqT_nil, eqB, beq_self_eq_true]
      · have g2 : decide ((t : Int) < (f : Int)) = false := decide_eq_false (by omega)
        rw [if_neg (by simp [c1, c2])]
        simp (disch := first | omega | (simp only [hN] <;> omega) | fail) only [go_sem, simprocAttr, k1, k2, k7, g1, g2, eqT_nil, eqB, beq_self_eq_true]
  · simp (disch := first | omega | (simp only [hN] <;> omega) | fail) only [go_sem, simprocAttr]
    exact ⟨0, .nilSlice, 1, rfl, Nat.zero_le _, by omega, fun _ _ => trivial, bC, Sl.nil, rfl⟩
end Go.Ev
