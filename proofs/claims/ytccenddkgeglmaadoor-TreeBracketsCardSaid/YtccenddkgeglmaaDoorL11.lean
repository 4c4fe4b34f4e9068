/- Trees moved by so many places. -/
import Derived.Test.YtccenddkgeglmaaDoorL10
set_option linter.all false
set_option linter.unusedVariables false
set_option linter.unusedSimpArgs false
namespace Go.Ev

mutual
def shN (d : Int) : Nd → Nd
  | ⟨k, p, m, t, n, s, o, b, ks⟩ => ⟨k, p + d, m, t, n, s, o, b, shL d ks⟩
def shL (d : Int) : List Nd → List Nd
  | [] => []
  | k :: ks => shN d k :: shL d ks
end
mutual
theorem count_sh (d : Int) : ∀ n : Nd, (shN d n).count = n.count
  | ⟨_, _, _, _, _, _, _, _, ks⟩ => by simp only [shN, Nd.count, cntL_sh d ks]
theorem cntL_sh (d : Int) : ∀ ks : List Nd, cntL (shL d ks) = cntL ks
  | [] => rfl
  | k :: ks => by simp only [shL, cntL, count_sh d k, cntL_sh d ks]
end
mutual
theorem depth_sh (d : Int) : ∀ n : Nd, (shN d n).depth = n.depth
  | ⟨_, _, _, _, _, _, _, _, ks⟩ => by simp only [shN, Nd.depth, dptL_sh d ks]
theorem dptL_sh (d : Int) : ∀ ks : List Nd, dptL (shL d ks) = dptL ks
  | [] => rfl
  | k :: ks => by simp only [shL, dptL, depth_sh d k, dptL_sh d ks]
end
mutual
theorem same_sh (d : Int) : ∀ n : Nd, n.same (shN d n) = true
  | ⟨_, _, _, _, _, _, _, _, ks⟩ => by simp only [shN, Nd.same, sameL_sh d ks, beq_self_eq_true, Bool.and_self]
theorem sameL_sh (d : Int) : ∀ ks : List Nd, sameL ks (shL d ks) = true
  | [] => rfl
  | k :: ks => by simp only [shL, sameL, same_sh d k, sameL_sh d ks, Bool.and_self]
end
theorem pos_sh (d : Int) (n : Nd) : (shN d n).pos = n.pos + d := by cases n; rfl
def shT (d : Nat) (t : Tok) : Tok := { t with pos := t.pos + d }
theorem isT_sh {ws : List Bs} {d : Nat} {ts cs : List Tok} (h : ts ≠ []) : isT ws (ts.map (shT d) ++ cs) = isT ws ts := by
  cases ts with
  | nil => exact absurd rfl h
  | cons t r => rfl
end Go.Ev
