/- The statements on trees: the chapter's example; how operators group. -/
import Derived.Test.YtccenddkgeglmaaDoorBK26
import Derived.Test.YtccenddkgeglmaaDoorL8
set_option linter.all false
set_option linter.unusedVariables false
set_option linter.unusedSimpArgs false
namespace Go.Ev
open Go
set_option maxRecDepth 100000
set_option maxHeartbeats 4000000

theorem row_at {vs cs : List AV} {o n i : Nat} {x : AV} (h : row vs o n = some cs) (hx : cs[i]? = some x) : vs[o + i]? = some x := by
  have hl := row_len h
  have hi : i < cs.length := by
    rcases Nat.lt_or_ge i cs.length with g | g
    · exact g
    · rw [List.getElem?_eq_none g] at hx; cases hx
  obtain ⟨h1, rfl⟩ := row_inv h
  rw [List.getElem?_take, if_pos (by omega), List.getElem?_drop] at hx
  exact hx
theorem kids2 {lo : Nat} {h : AHeap} {x y : Nd} {kv : AV} (k : KidsR lo h [x, y] kv) : ∃ b ver o c md ex bs kx ky, kv = .slice b o 2 c ex ∧ lo ≤ b ∧ b < h.n ∧ h.get b = some ⟨ver, .cells md 9 bs⟩ ∧ row bs o 18 = some (ndC x kx ++ ndC y ky) := by
  cases k with
  | row h1 h2 h3 h4 h5 h6 =>
    cases h6 with
    | cons k1 k2 =>
      cases k2 with
      | cons k3 k4 =>
        cases k4
        rw [List.append_nil] at h5
        exact ⟨_, _, _, _, _, _, _, _, _, rfl, h2, h3, h4, h5⟩
theorem alive06 {h : AHeap} (hG : GH h) {Q : QR} (hQ : ∀ h', Fr h.n h h' → Q (.ret (.bool true)) h') : WF F 18 [] h Q := by
  refine WF.code F18 rfl ?_
  simp (maxSteps := 9999999) (disch := first | omega | (simp only [hN] <;> omega) | fail) only [go_sem, simprocAttr]
  refine expr_read (by decide) hG ?_
  rw [alive6a]
  intro h1 kv hf1 hk1
  have hn1 := hf1.n; try simp only [AHeap.alloc_n, AHeap.upd_n] at hn1
  have hG1 := hf1.gh hG.n hG
  obtain ⟨b, ver, o, c, md, ex, bs, kx, ky, rfl, hb1, hb2, hb3, hb4⟩ := kids2 hk1
  have hb5 : bs[o + 9 + 2]? = some (.str [42]) := row_at (i := 11) hb4 rfl
  simp (maxSteps := 9999999) (disch := first | omega | (simp only [hN] <;> omega) | fail) only [go_sem, simprocAttr, Nd.kind, Nd.pos, Nd.name, Nd.typ, Nd.n, Nd.size, Nd.obj, Nd.bits]
  have hn0 := hG1.n
  generalize hH : AHeap.upd _ _ _ _ = H
  have hHn : H.n = h1.n + 2 := by rw [← hH]; simp (maxSteps := 9999999) (disch := first | omega | (simp only [hN] <;> omega) | fail) only [go_sem, simprocAttr]
  have hHo : ∀ b', b' < h1.n → H.get b' = h1.get b' := fun b' hb' => by rw [← hH]; simp (maxSteps := 9999999) (disch := first | omega | (simp only [hN] <;> omega) | fail) only [go_sem, simprocAttr]
  have hHb : H.get b = some ⟨ver, .cells md 9 bs⟩ := by rw [hHo _ hb2]; exact hb3
  have hH1 : H.get h1.n = some ⟨1, .cells .own 0 [.int .i64 31, .int .i64 0, .str [43], .int .i64 0, .int .i64 0, .int .i64 0, .int .i64 0, .int .u64 0, .slice b o 2 c ex]⟩ := by rw [← hH]; simp (maxSteps := 9999999) (disch := first | omega | (simp only [hN] <;> omega) | fail) only [go_sem, simprocAttr]
  have hH2 : H.get (h1.n + 1) = some ⟨1, .cells .own 0 [.nilIface, .int .i64 0]⟩ := by rw [← hH]; simp (maxSteps := 9999999) (disch := first | omega | (simp only [hN] <;> omega) | fail) only [go_sem, simprocAttr]
  have hGH : GH H := (show Fr h1.n h1 H from ⟨by omega, fun b hb _ => hHo b hb⟩).gh hG1.n hG1
  refine expr_read (by decide) hGH ?_
  rw [alive6b]
  intro h2 hf2
  have hn2 := hf2.n; try simp only [AHeap.alloc_n, AHeap.upd_n] at hn2
  have hG2 := hf2.gh hGH.n hGH
  have q1 := (hf2.all (b := h1.n) (by omega)).trans hH1
  have q2 := (hf2.all (b := h1.n + 1) (by omega)).trans hH2
  have q3 := (hf2.all (b := b) (by omega)).trans hHb
  have c1 : decide ((1 : Int) < ((2 : Nat) : Int)) = true := by decide
  simp (maxSteps := 9999999) (disch := first | omega | (simp only [hN] <;> omega) | fail) only [go_sem, simprocAttr, eqT_nil, q1, q2, q3, c1, hb5]
  have hlt : h1.n + 2 ≤ h2.n := by omega
  generalize hK : AHeap.upd _ _ _ _ = K
  have hKn : K.n = h2.n + 2 := by rw [← hK]; simp (maxSteps := 9999999) (disch := first | omega | (simp only [hN] <;> omega) | fail) only [go_sem, simprocAttr]
  have hKo : ∀ b', b' < h2.n → K.get b' = h2.get b' := fun b' hb' => by rw [← hK]; simp (maxSteps := 9999999) (disch := first | omega | (simp only [hN] <;> omega) | fail) only [go_sem, simprocAttr]
  have hK2 : K.get (h2.n + 1) = some ⟨1, .cells .own 0 [errAV 2, .int .i64 3]⟩ := by rw [← hK]; simp (maxSteps := 9999999) (disch := first | omega | (simp only [hN] <;> omega) | fail) only [go_sem, simprocAttr]
  have hGK : GH K := (show Fr h2.n h2 K from ⟨by omega, fun b hb _ => hKo b hb⟩).gh hG2.n hG2
  refine num_spec (e := 2) hGK (by decide) (by decide) ?_
  intro h3 hf3
  have hn3 := hf3.n; try simp only [AHeap.alloc_n, AHeap.upd_n] at hn3
  have q4 := (hf3.all (b := h2.n + 1) (by omega)).trans hK2
  simp (maxSteps := 9999999) (disch := first | omega | (simp only [hN] <;> omega) | fail) only [go_sem, simprocAttr, q4]
  refine hQ _ ⟨by omega, fun b hb _ => ?_⟩
  rw [hf3.all (by omega), hKo _ (by omega), hf2.all (by omega), hHo _ (by omega), hf1.all hb]
end Go.Ev
