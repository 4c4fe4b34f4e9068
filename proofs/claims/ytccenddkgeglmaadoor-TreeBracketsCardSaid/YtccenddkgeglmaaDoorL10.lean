/- Trees: how many nodes, how deep, the same. -/
import Derived.Test.YtccenddkgeglmaaDoorL7
set_option linter.all false
set_option linter.unusedVariables false
set_option linter.unusedSimpArgs false
namespace Go.Ev

mutual
def Nd.count : Nd → Nat
  | ⟨_, _, _, _, _, _, _, _, ks⟩ => 1 + cntL ks
def cntL : List Nd → Nat
  | [] => 0
  | k :: ks => k.count + cntL ks
end
mutual
def Nd.depth : Nd → Nat
  | ⟨_, _, _, _, _, _, _, _, ks⟩ => 1 + dptL ks
def dptL : List Nd → Nat
  | [] => 0
  | k :: ks => max k.depth (dptL ks)
end
mutual
def Nd.same : Nd → Nd → Bool
  | ⟨k, _, m, t, n, s, o, b, ks⟩, ⟨k', _, m', t', n', s', o', b', ks'⟩ => k == k' && m == m' && t == t' && n == n' && s == s' && o == o' && b == b' && sameL ks ks'
def sameL : List Nd → List Nd → Bool
  | [], [] => true
  | k :: ks, k' :: ks' => k.same k' && sameL ks ks'
  | _, _ => false
end
theorem cntL_append : ∀ (a b : List Nd), cntL (a ++ b) = cntL a + cntL b
  | [], b => by simp [cntL]
  | k :: a, b => by simp [cntL, cntL_append a b, Nat.add_assoc]
theorem cntL_take {ns : List Nd} {i : Nat} (h : i < ns.length) : cntL (ns.take (i + 1)) = cntL (ns.take i) + ns[i].count := by
  rw [List.take_succ_eq_append_getElem h, cntL_append]
  simp [cntL]
theorem cntL_le {ns : List Nd} (i : Nat) : cntL (ns.take i) ≤ cntL ns := by
  have := congrArg cntL (List.take_append_drop i ns)
  rw [cntL_append] at this
  omega
theorem count_pos (n : Nd) : 1 ≤ n.count := by cases n; simp only [Nd.count]; omega
theorem len_le_cnt : ∀ (ks : List Nd), ks.length ≤ cntL ks
  | [] => by simp [cntL]
  | k :: ks => by
    have h1 := count_pos k
    have h2 := len_le_cnt ks
    simp only [cntL, List.length_cons]
    omega
theorem dptL_append : ∀ (a b : List Nd), dptL (a ++ b) = max (dptL a) (dptL b)
  | [], b => by simp [dptL]
  | k :: a, b => by simp [dptL, dptL_append a b, Nat.max_assoc]
theorem dptL_take {ns : List Nd} {i : Nat} (h : i < ns.length) : dptL (ns.take (i + 1)) = max (dptL (ns.take i)) ns[i].depth := by
  rw [List.take_succ_eq_append_getElem h, dptL_append]
  simp [dptL]
mutual
theorem depth_le : ∀ (n : Nd), n.depth ≤ n.count
  | ⟨_, _, _, _, _, _, _, _, ks⟩ => by have := dptL_le ks; simp only [Nd.depth, Nd.count]; omega
theorem dptL_le : ∀ (ks : List Nd), dptL ks ≤ cntL ks
  | [] => Nat.le_refl _
  | k :: ks => by have h1 := depth_le k; have h2 := dptL_le ks; simp only [dptL, cntL]; omega
end
end Go.Ev
