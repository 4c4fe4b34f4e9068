/- Two operators between three names. -/
import Derived.Test.YtccenddkgeglmaaDoorL7
set_option linter.all false
set_option linter.unusedVariables false
set_option linter.unusedSimpArgs false
namespace Go.Ev

def opsL : List Bs := [[124, 124], [38, 38], [61, 61], [33, 61], [60], [60, 61], [62], [62, 61], [43], [45], [42], [47], [37]]
def ranksL : List Nat := [1, 2, 3, 3, 3, 3, 3, 3, 4, 4, 5, 5, 5]
def opAt (i : Nat) : Bs := opsL.getD i []
def rankAt (i : Nat) : Nat := ranksL.getD i 0
def grpText (i k : Nat) : Bs := [97, 32] ++ opAt i ++ [32, 98, 32] ++ opAt k ++ [32, 99]
def grpOk (i k : Nat) : Bool :=
  match exprS (grpText i k) with
  | .error (_, _) => rankAt i == 3 && rankAt k == 3
  | .ok (.mk kd _ nm _ _ _ _ _ [.mk _ _ a _ _ _ _ _ _, .mk _ _ c _ _ _ _ _ _]) =>
    !(rankAt i == 3 && rankAt k == 3) && decide (kd = 31) && (if rankAt k ≤ rankAt i then nm == opAt k && a == opAt i && c == [99] else nm == opAt i && a == [97] && c == opAt k)
  | .ok _ => false
theorem grp_all : ((List.range 13).all fun i => (List.range 13).all fun k => grpOk i k) = true := by decide +kernel
theorem grp_ok {i k : Nat} (hi : i < 13) (hk : k < 13) : grpOk i k = true := by
  have := grp_all
  rw [List.all_eq_true] at this
  have := this i (List.mem_range.2 hi)
  rw [List.all_eq_true] at this
  exact this k (List.mem_range.2 hk)
theorem alive6a : exprS [49, 43, 50, 42, 51] = .ok (.mk 31 0 [43] 0 0 0 0 0 [.mk 25 0 [] 0 1 0 0 0 [], .mk 31 2 [42] 0 0 0 0 0 [.mk 25 2 [] 0 2 0 0 0 [], .mk 25 4 [] 0 3 0 0 0 []]]) := by rfl
theorem alive6b : exprS [49, 60, 50, 60, 51] = .error (2, 3) := by rfl
end Go.Ev
