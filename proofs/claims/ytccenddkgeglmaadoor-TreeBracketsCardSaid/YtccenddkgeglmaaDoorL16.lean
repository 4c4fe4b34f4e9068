/- Trees of expressions: no more nodes than tokens; a node's place is a token's. -/
import Derived.Test.YtccenddkgeglmaaDoorL10
import Derived.Test.YtccenddkgeglmaaDoorL6
set_option linter.all false
set_option linter.unusedVariables false
set_option linter.unusedSimpArgs false
namespace Go.Ev

def Well (u : PT) : Prop := ∀ lv ts n r, u lv ts = .ok (n, r) → n.count + r.length ≤ ts.length ∧ r <:+ ts ∧ ∃ t ∈ ts, n.pos = (t.pos : Int)
theorem tail_suf (ts : List Tok) : ts.tail <:+ ts := List.tail_suffix ts
theorem mem_suf {r ts : List Tok} (h : r <:+ ts) {p : Int} (e : ∃ t ∈ r, p = (t.pos : Int)) : ∃ t ∈ ts, p = (t.pos : Int) := by
  obtain ⟨t, h1, h2⟩ := e
  exact ⟨t, h.subset h1, h2⟩
theorem hd_mem {E : Nat} {ts : List Tok} (h : ts ≠ []) : ∃ t ∈ ts, ((hdT E ts).pos : Int) = (t.pos : Int) := by
  cases ts with
  | nil => exact absurd rfl h
  | cons t ts => exact ⟨t, by simp, rfl⟩
theorem rowL_well {u : PT} (hu : Well u) {many : Bool} {ops : List Bs} {lv : Nat} : ∀ (f : Nat) (n : Nd) (ts : List Tok) (m : Nd) (r : List Tok), rowL u many ops lv f n ts = .ok (m, r) → m.count + r.length ≤ n.count + ts.length ∧ r <:+ ts ∧ m.pos = n.pos
  | 0, _, _, _, _, h => by cases h
  | f + 1, n, ts, m, r, h => by
    rw [rowL] at h
    by_cases hi : isT ops ts = true
    · rw [if_pos hi] at h
      have hne := tail_lt (isT_ne hi)
      cases hx : u lv ts.tail with
      | error x => rw [hx] at h; cases h
      | ok y =>
        obtain ⟨k, ts'⟩ := y
        rw [hx] at h
        obtain ⟨h1, h2, _⟩ := hu _ _ _ _ hx
        simp only at h
        have hc : (binN n (hdT 0 ts).text k).count = 1 + (n.count + (k.count + 0)) := rfl
        cases many with
        | true =>
          obtain ⟨g1, g2, g3⟩ := rowL_well hu f _ ts' m r h
          exact ⟨by omega, g2.trans (h2.trans (tail_suf ts)), g3⟩
        | false =>
          cases h
          exact ⟨by omega, h2.trans (tail_suf ts), rfl⟩
    · rw [if_neg hi] at h
      cases h
      exact ⟨Nat.le_refl _, List.suffix_refl _, rfl⟩
theorem rowP_well {u : PT} (hu : Well u) {many : Bool} {ops : List Bs} : Well (rowP many ops u) := by
  intro lv ts n r h
  unfold rowP at h
  cases hx : u lv ts with
  | error x => rw [hx] at h; cases h
  | ok y =>
    obtain ⟨k, ts'⟩ := y
    rw [hx] at h
    obtain ⟨h1, h2, h3⟩ := hu _ _ _ _ hx
    obtain ⟨g1, g2, g3⟩ := rowL_well hu _ _ _ _ _ h
    exact ⟨by omega, g2.trans h2, g3 ▸ h3⟩
theorem exprOf_well {u : PT} (hu : Well u) : Well (exprOf u) := rowP_well (rowP_well (rowP_well (rowP_well (rowP_well hu))))
theorem inP_well {E : Nat} {a b : Bs} {x : PT} (hx : Well x) {lv : Nat} {ts : List Tok} {n : Nd} {r : List Tok} (h : inP E a b x lv ts = .ok (n, r)) : n.count + r.length + 2 ≤ ts.length ∧ r <:+ ts ∧ ∃ t ∈ ts, n.pos = (t.pos : Int) := by
  unfold inP at h
  by_cases hi : isT [a] ts = true
  · rw [if_pos hi] at h
    have hne := tail_lt (isT_ne hi)
    by_cases h16 : lv = 16
    · rw [if_pos h16] at h; cases h
    · rw [if_neg h16] at h
      cases hy : x (lv + 1) ts.tail with
      | error x => rw [hy] at h; cases h
      | ok y =>
        obtain ⟨k, ts'⟩ := y
        rw [hy] at h
        obtain ⟨h1, h2, h3⟩ := hx _ _ _ _ hy
        simp only at h
        by_cases hb : isT [b] ts' = true
        · rw [if_pos hb] at h
          cases h
          have hne2 := tail_lt (isT_ne hb)
          exact ⟨by omega, (tail_suf _).trans (h2.trans (tail_suf ts)), mem_suf (tail_suf ts) h3⟩
        · rw [if_neg hb] at h; cases h
  · rw [if_neg hi] at h; cases h
theorem nameP_well {E : Nat} {x : PT} (hx : Well x) {lv : Nat} {ts : List Tok} {n : Nd} {r : List Tok} (hne : ts ≠ []) (h : nameP E x lv ts = .ok (n, r)) : n.count + r.length ≤ ts.length ∧ r <:+ ts ∧ ∃ t ∈ ts, n.pos = (t.pos : Int) := by
  have ht := tail_lt hne
  unfold nameP at h
  split at h
  · cases hy : inP E [91] [93] x lv ts.tail with
    | error x => rw [hy] at h; cases h
    | ok y =>
      obtain ⟨k, ts'⟩ := y
      rw [hy] at h
      cases h
      obtain ⟨h1, h2, _⟩ := inP_well hx hy
      refine ⟨?_, h2.trans (tail_suf ts), hd_mem hne⟩
      simp only [Nd.count, cntL]; omega
  · cases h
    refine ⟨?_, tail_suf ts, hd_mem hne⟩
    simp only [Nd.count, cntL]; omega
theorem primP_well {E : Nat} {x : PT} (hx : Well x) : Well (primP E x) := by
  intro lv ts n r h
  unfold primP at h
  by_cases hne : ts = []
  · subst hne
    simp [hdT, isT, inP] at h
  have ht := tail_lt hne
  split at h
  · cases h; refine ⟨?_, tail_suf ts, hd_mem hne⟩; simp only [Nd.count, cntL]; omega
  split at h
  · cases h; refine ⟨?_, tail_suf ts, hd_mem hne⟩; simp only [Nd.count, cntL]; omega
  split at h
  · exact nameP_well hx hne h
  split at h
  · cases h; refine ⟨?_, tail_suf ts, hd_mem hne⟩; simp only [Nd.count, cntL]; omega
  split at h
  · cases h; refine ⟨?_, tail_suf ts, hd_mem hne⟩; simp only [Nd.count, cntL]; omega
  split at h
  · cases hy : inP E [40] [41] x lv ts.tail with
    | error x => rw [hy] at h; cases h
    | ok y =>
      obtain ⟨k, ts'⟩ := y
      rw [hy] at h
      cases h
      obtain ⟨h1, h2, _⟩ := inP_well hx hy
      refine ⟨?_, h2.trans (tail_suf ts), hd_mem hne⟩
      simp only [Nd.count, cntL]; omega
  · obtain ⟨h1, h2, h3⟩ := inP_well hx h
    exact ⟨by omega, h2, h3⟩
theorem unP_well {E : Nat} : ∀ f, Well (unP E f)
  | 0 => by intro lv ts n r h; cases h
  | f + 1 => by
    intro lv ts n r h
    rw [unP] at h
    by_cases hi : isT [[45], [33]] ts = true
    · rw [if_pos hi] at h
      have hne := isT_ne hi
      have ht := tail_lt hne
      by_cases h16 : lv = 16
      · rw [if_pos h16] at h; cases h
      · rw [if_neg h16] at h
        cases hy : unP E f (lv + 1) ts.tail with
        | error x => rw [hy] at h; cases h
        | ok y =>
          obtain ⟨k, ts'⟩ := y
          rw [hy] at h
          cases h
          obtain ⟨h1, h2, _⟩ := unP_well f _ _ _ _ hy
          refine ⟨?_, h2.trans (tail_suf ts), hd_mem hne⟩
          simp only [Nd.count, cntL]; omega
    · rw [if_neg hi] at h
      exact primP_well (exprOf_well (unP_well f)) lv ts n r h
theorem toks_pos {N : Nat} : ∀ (f : Nat) (l : Bs) (n : Nat) (ts : List Tok), toksL N f l n = .ok ts → ∀ t ∈ ts, t.pos ≤ N
  | 0, _, _, _, h => by cases h
  | f + 1, l, n, ts, h => by
    simp only [toksL] at h
    split at h
    · cases h; intro t ht; cases ht
    · split at h
      · cases h
      · cases hx : nextTok N l with
        | error e => rw [hx] at h; cases h
        | ok x =>
          obtain ⟨t, r⟩ := x
          rw [hx] at h
          simp only at h
          cases hy : toksL N f (skip r) (n + 1) with
          | error e => rw [hy] at h; cases h
          | ok us =>
            rw [hy] at h
            cases h
            intro t' ht
            rcases List.mem_cons.1 ht with rfl | ht
            · have := (nextTok_ok hx).2.2; omega
            · exact toks_pos _ _ _ _ hy t' ht
theorem expr_small {s : Bs} {a : Nd} (h : exprS s = .ok a) : a.count ≤ 2000 ∧ ∃ p : Nat, a.pos = (p : Int) ∧ p ≤ 8192 := by
  unfold exprS readP at h
  cases ht : tokens s with
  | error e => rw [ht] at h; cases h
  | ok ts =>
    rw [ht] at h
    simp only at h
    have hl := tokens_len ht
    cases hx : exprP s.length (ts.length + 1) 0 ts with
    | error e => rw [hx] at h; cases h
    | ok y =>
      obtain ⟨n, r⟩ := y
      rw [hx] at h
      cases r with
      | cons t r => cases h
      | nil =>
        simp only at h
        cases h
        obtain ⟨h1, h2, t, h3, h4⟩ := exprOf_well (unP_well _) _ _ _ _ hx
        refine ⟨by omega, t.pos, h4, ?_⟩
        unfold tokens at ht
        split at ht
        · cases ht
        · have := toks_pos _ _ _ _ ht t h3
          omega
end Go.Ev
