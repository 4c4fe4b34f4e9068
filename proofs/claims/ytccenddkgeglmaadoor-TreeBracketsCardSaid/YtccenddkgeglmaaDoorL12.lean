/- A parser on moved tokens with a closing mark behind them. -/
import Derived.Test.YtccenddkgeglmaaDoorL11
import Derived.Test.YtccenddkgeglmaaDoorL9
set_option linter.all false
set_option linter.unusedVariables false
set_option linter.unusedSimpArgs false
namespace Go.Ev

def ShP (d : Nat) (cs : List Tok) (r r' : PR) : Prop := ∀ n ts, r = .ok (n, ts) → r' = .ok (shN d n, ts.map (shT d) ++ cs) ∨ ∃ p, r' = .error (3, p)
def ShU (d : Nat) (cs : List Tok) (u u' : PT) : Prop := ∀ lv ts, ShP d cs (u lv ts) (u' (lv + 1) (ts.map (shT d) ++ cs))
theorem isT_shc {ws : List Bs} {d : Nat} {ts cs : List Tok} (hc : CloT cs) (h1 : ws.contains [41] = false) (h2 : ws.contains [93] = false) : isT ws (ts.map (shT d) ++ cs) = isT ws ts := by
  cases ts with
  | nil => exact hc.not h1 h2
  | cons t r => rfl
theorem hd_sh {E E' d : Nat} {ts cs : List Tok} (h : ts ≠ []) : hdT E' (ts.map (shT d) ++ cs) = shT d (hdT E ts) := by
  cases ts with
  | nil => exact absurd rfl h
  | cons t r => rfl
theorem tl_sh {d : Nat} {ts cs : List Tok} (h : ts ≠ []) : (ts.map (shT d) ++ cs).tail = ts.tail.map (shT d) ++ cs := by
  cases ts with
  | nil => exact absurd rfl h
  | cons t r => rfl
theorem rowL_sh {d : Nat} {cs : List Tok} (hc : CloT cs) {u u' : PT} (hu : ShU d cs u u') {many : Bool} {ops : List Bs} (h1 : ops.contains [41] = false) (h2 : ops.contains [93] = false) {lv : Nat} : ∀ (f f' : Nat) (n : Nd) (ts : List Tok), f ≤ f' → ShP d cs (rowL u many ops lv f n ts) (rowL u' many ops (lv + 1) f' (shN d n) (ts.map (shT d) ++ cs))
  | 0, _, _, _, _ => by intro n' r e; cases e
  | f + 1, 0, _, _, h => by omega
  | f + 1, f' + 1, n, ts, h => by
    intro n' r e
    rw [rowL] at e ⊢
    rw [isT_shc hc h1 h2]
    by_cases hi : isT ops ts = true
    · rw [if_pos hi] at e ⊢
      have hne := isT_ne hi
      rw [tl_sh hne, hd_sh (E := 0) hne]
      cases hx : u lv ts.tail with
      | error x => rw [hx] at e; cases e
      | ok y =>
        obtain ⟨k, ts'⟩ := y
        rw [hx] at e
        rcases hu lv ts.tail k ts' hx with g | ⟨p, g⟩
        · rw [g]
          simp only at e ⊢
          have hb : binN (shN d n) (shT d (hdT 0 ts)).text (shN d k) = shN d (binN n (hdT 0 ts).text k) := by
            simp only [binN, shN, shL, pos_sh, shT]
          rw [hb]
          cases many with
          | true => exact rowL_sh hc hu h1 h2 f f' _ ts' (by omega) n' r e
          | false =>
            simp only [Bool.false_eq_true, if_false] at e ⊢
            cases e
            exact .inl rfl
        · rw [g]
          exact .inr ⟨p, rfl⟩
    · rw [if_neg hi] at e ⊢
      cases e
      exact .inl rfl
theorem rowP_sh {d : Nat} {cs : List Tok} (hc : CloT cs) {u u' : PT} (hu : ShU d cs u u') {many : Bool} {ops : List Bs} (h1 : ops.contains [41] = false) (h2 : ops.contains [93] = false) : ShU d cs (rowP many ops u) (rowP many ops u') := by
  intro lv ts n r e
  unfold rowP at e ⊢
  cases hx : u lv ts with
  | error x => rw [hx] at e; cases e
  | ok y =>
    obtain ⟨k, ts'⟩ := y
    rw [hx] at e
    rcases hu lv ts k ts' hx with g | ⟨p, g⟩
    · rw [g]
      exact rowL_sh hc hu h1 h2 _ _ k ts' (by simp) n r e
    · rw [g]
      exact .inr ⟨p, rfl⟩
theorem exprOf_sh {d : Nat} {cs : List Tok} (hc : CloT cs) {u u' : PT} (hu : ShU d cs u u') : ShU d cs (exprOf u) (exprOf u') :=
  rowP_sh hc (rowP_sh hc (rowP_sh hc (rowP_sh hc (rowP_sh hc hu rfl rfl) rfl rfl) rfl rfl) rfl rfl) rfl rfl
end Go.Ev
