/- A parser on moved tokens with a closing mark behind them: the whole. -/
import Derived.Test.YtccenddkgeglmaaDoorL12
set_option linter.all false
set_option linter.unusedVariables false
set_option linter.unusedSimpArgs false
namespace Go.Ev

theorem isT_she {ws : List Bs} {d : Nat} {ts cs : List Tok} (h : isT ws ts = true) : isT ws (ts.map (shT d) ++ cs) = true := by
  rw [isT_sh (isT_ne h)]; exact h
theorem inP_sh {E E' d : Nat} {a b : Bs} {cs : List Tok} {x x' : PT} (hx : ShU d cs x x') : ShU d cs (inP E a b x) (inP E' a b x') := by
  intro lv ts n r e
  unfold inP at e ⊢
  by_cases hi : isT [a] ts = true
  · rw [if_pos hi] at e
    rw [if_pos (isT_she hi)]
    by_cases h16 : lv = 16
    · rw [if_pos h16] at e; cases e
    · rw [if_neg h16] at e
      by_cases h15 : lv + 1 = 16
      · rw [if_pos h15]; exact .inr ⟨_, rfl⟩
      · rw [if_neg h15, tl_sh (isT_ne hi)]
        cases hy : x (lv + 1) ts.tail with
        | error y => rw [hy] at e; cases e
        | ok y =>
          obtain ⟨k, ts'⟩ := y
          rw [hy] at e
          simp only at e
          by_cases hb : isT [b] ts' = true
          · rw [if_pos hb] at e
            cases e
            rcases hx (lv + 1) ts.tail n ts' hy with g | ⟨p, g⟩
            · rw [g]
              simp only
              rw [if_pos (isT_she hb), tl_sh (isT_ne hb)]
              exact .inl rfl
            · rw [g]; exact .inr ⟨p, rfl⟩
          · rw [if_neg hb] at e; cases e
  · rw [if_neg hi] at e; cases e
theorem nameP_sh {E E' d : Nat} {cs : List Tok} (hc : CloT cs) {x x' : PT} (hx : ShU d cs x x') : ∀ lv ts, ts ≠ [] → ShP d cs (nameP E x lv ts) (nameP E' x' (lv + 1) (ts.map (shT d) ++ cs)) := by
  intro lv ts hne n r e
  unfold nameP at e ⊢
  rw [tl_sh hne, isT_shc hc rfl rfl, hd_sh (E := E) hne]
  by_cases hi : isT [[91]] ts.tail = true
  · rw [if_pos hi] at e ⊢
    cases hy : inP E [91] [93] x lv ts.tail with
    | error y => rw [hy] at e; cases e
    | ok y =>
      obtain ⟨k, ts'⟩ := y
      rw [hy] at e
      cases e
      rcases inP_sh (E' := E') hx lv ts.tail k _ hy with g | ⟨p, g⟩
      · rw [g]; refine .inl ?_; simp only [shN, shL, shT, Int.natCast_add]
      · rw [g]; exact .inr ⟨p, rfl⟩
  · rw [if_neg hi] at e ⊢
    cases e
    refine .inl ?_
    simp only [shN, shL, shT, Int.natCast_add]
theorem primP_sh {E E' d : Nat} {cs : List Tok} (hc : CloT cs) {x x' : PT} (hx : ShU d cs x x') : ShU d cs (primP E x) (primP E' x') := by
  intro lv ts
  by_cases hne : ts = []
  · subst hne
    intro n r e
    simp [primP, hdT, isT, inP] at e
  intro n r e
  have e1 : (hdT E' (ts.map (shT d) ++ cs)) = shT d (hdT E ts) := hd_sh hne
  have ek : (shT d (hdT E ts)).kind = (hdT E ts).kind := rfl
  unfold primP at e ⊢
  rw [e1, ek, tl_sh hne, isT_sh hne, isT_sh hne, isT_sh hne]
  by_cases h3 : (hdT E ts).kind = 3
  · rw [if_pos h3] at e ⊢; cases e; refine .inl ?_; simp only [shN, shL, shT, Int.natCast_add]
  rw [if_neg h3] at e ⊢
  by_cases h4 : (hdT E ts).kind = 4
  · rw [if_pos h4] at e ⊢; cases e; refine .inl ?_; simp only [shN, shL, shT, Int.natCast_add]
  rw [if_neg h4] at e ⊢
  by_cases h1 : (hdT E ts).kind = 1
  · rw [if_pos h1] at e ⊢; exact nameP_sh hc hx lv ts hne n r e
  rw [if_neg h1] at e ⊢
  by_cases ht : isT [[116, 114, 117, 101]] ts = true
  · rw [if_pos ht] at e ⊢; cases e; refine .inl ?_; simp only [shN, shL, shT, Int.natCast_add]
  rw [if_neg ht] at e ⊢
  by_cases hf : isT [[102, 97, 108, 115, 101]] ts = true
  · rw [if_pos hf] at e ⊢; cases e; refine .inl ?_; simp only [shN, shL, shT, Int.natCast_add]
  rw [if_neg hf] at e ⊢
  by_cases hi : isT [[105, 110, 116], [102, 108, 111, 97, 116]] ts = true
  · rw [if_pos hi] at e ⊢
    cases hy : inP E [40] [41] x lv ts.tail with
    | error y => rw [hy] at e; cases e
    | ok y =>
      obtain ⟨k, ts'⟩ := y
      rw [hy] at e
      cases e
      rcases inP_sh (E' := E') hx lv ts.tail k _ hy with g | ⟨p, g⟩
      · rw [g]; refine .inl ?_; simp only [shN, shL, shT, Int.natCast_add]
      · rw [g]; exact .inr ⟨p, rfl⟩
  · rw [if_neg hi] at e ⊢
    exact inP_sh hx lv ts n r e
theorem unP_sh {E E' d : Nat} {cs : List Tok} (hc : CloT cs) : ∀ f f', f ≤ f' → ShU d cs (unP E f) (unP E' f')
  | 0, _, _ => by intro lv ts n r e; cases e
  | f + 1, 0, h => by omega
  | f + 1, f' + 1, h => by
    intro lv ts n r e
    have ih := unP_sh (E := E) (E' := E') (d := d) hc f f' (by omega)
    rw [unP] at e ⊢
    by_cases hi : isT [[45], [33]] ts = true
    · have hne := isT_ne hi
      rw [if_pos hi] at e
      rw [if_pos (isT_she hi), tl_sh hne, hd_sh (E := E) hne]
      by_cases h16 : lv = 16
      · rw [if_pos h16] at e; cases e
      · rw [if_neg h16] at e
        by_cases h15 : lv + 1 = 16
        · rw [if_pos h15]; exact .inr ⟨_, rfl⟩
        · rw [if_neg h15]
          cases hy : unP E f (lv + 1) ts.tail with
          | error y => rw [hy] at e; cases e
          | ok y =>
            obtain ⟨k, ts'⟩ := y
            rw [hy] at e
            cases e
            rcases ih (lv + 1) ts.tail k _ hy with g | ⟨p, g⟩
            · rw [g]; refine .inl ?_; simp only [shN, shL, shT, Int.natCast_add]
            · rw [g]; exact .inr ⟨p, rfl⟩
    · rw [if_neg hi] at e
      have hi' : isT [[45], [33]] (ts.map (shT d) ++ cs) = false := by rw [isT_shc hc rfl rfl]; simpa using hi
      rw [hi']
      simp only [Bool.false_eq_true, if_false]
      exact primP_sh hc (exprOf_sh hc ih) lv ts n r e
end Go.Ev
