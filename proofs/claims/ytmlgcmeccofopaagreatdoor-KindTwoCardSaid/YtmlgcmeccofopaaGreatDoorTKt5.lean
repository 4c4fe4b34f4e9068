/- The runs for operators 10, 11. -/
import Derived.Test.YtmlgcmeccofopaaGreatDoorTKb
import Derived.KernelRfl
set_option linter.all false
set_option linter.unusedVariables false
set_option linter.unusedSimpArgs false
namespace Go.Ev
open Go
set_option maxRecDepth 100000
theorem q7_10_0 (n0 n1 n2 n3 : Int) : ([0, 1, 2].all fun c => [0, 1, 2].all fun t => run7 n0 n1 n2 n3 10 0 c t) = true := by kernel_rfl
theorem q7_10_1 (n0 n1 n2 n3 : Int) : ([0, 1, 2].all fun c => [0, 1, 2].all fun t => run7 n0 n1 n2 n3 10 1 c t) = true := by kernel_rfl
theorem q7_10_2 (n0 n1 n2 n3 : Int) : ([0, 1, 2].all fun c => [0, 1, 2].all fun t => run7 n0 n1 n2 n3 10 2 c t) = true := by kernel_rfl
theorem two_10 : Two 10 := fun n0 n1 n2 n3 a c t ha hc ht => by
  match a, ha with
  | 0, _ => exact all3 (f := fun t => run7 n0 n1 n2 n3 10 0 c t) (all3 (f := fun c => [0, 1, 2].all fun t => run7 n0 n1 n2 n3 10 0 c t) (q7_10_0 n0 n1 n2 n3) hc) ht
  | 1, _ => exact all3 (f := fun t => run7 n0 n1 n2 n3 10 1 c t) (all3 (f := fun c => [0, 1, 2].all fun t => run7 n0 n1 n2 n3 10 1 c t) (q7_10_1 n0 n1 n2 n3) hc) ht
  | 2, _ => exact all3 (f := fun t => run7 n0 n1 n2 n3 10 2 c t) (all3 (f := fun c => [0, 1, 2].all fun t => run7 n0 n1 n2 n3 10 2 c t) (q7_10_2 n0 n1 n2 n3) hc) ht
theorem q7_11_0 (n0 n1 n2 n3 : Int) : ([0, 1, 2].all fun c => [0, 1, 2].all fun t => run7 n0 n1 n2 n3 11 0 c t) = true := by kernel_rfl
theorem q7_11_1 (n0 n1 n2 n3 : Int) : ([0, 1, 2].all fun c => [0, 1, 2].all fun t => run7 n0 n1 n2 n3 11 1 c t) = true := by kernel_rfl
theorem q7_11_2 (n0 n1 n2 n3 : Int) : ([0, 1, 2].all fun c => [0, 1, 2].all fun t => run7 n0 n1 n2 n3 11 2 c t) = true := by kernel_rfl
theorem two_11 : Two 11 := fun n0 n1 n2 n3 a c t ha hc ht => by
  match a, ha with
  | 0, _ => exact all3 (f := fun t => run7 n0 n1 n2 n3 11 0 c t) (all3 (f := fun c => [0, 1, 2].all fun t => run7 n0 n1 n2 n3 11 0 c t) (q7_11_0 n0 n1 n2 n3) hc) ht
  | 1, _ => exact all3 (f := fun t => run7 n0 n1 n2 n3 11 1 c t) (all3 (f := fun c => [0, 1, 2].all fun t => run7 n0 n1 n2 n3 11 1 c t) (q7_11_1 n0 n1 n2 n3) hc) ht
  | 2, _ => exact all3 (f := fun t => run7 n0 n1 n2 n3 11 2 c t) (all3 (f := fun c => [0, 1, 2].all fun t => run7 n0 n1 n2 n3 11 2 c t) (q7_11_2 n0 n1 n2 n3) hc) ht
end Go.Ev
