/- The runs for 0 to 7 locals, 2 in a block. -/
import Derived.Test.YtmlgcmeccofopaaGreatDoorSKa
import Derived.KernelRfl
set_option linter.all false
set_option linter.unusedVariables false
set_option linter.unusedSimpArgs false
namespace Go.Ev
open Go
set_option maxRecDepth 100000
theorem q5_0_1 : run5 0 2 = true := by kernel_rfl
theorem q5_1_1 : run5 1 2 = true := by kernel_rfl
theorem q5_2_1 : run5 2 2 = true := by kernel_rfl
theorem q5_3_1 : run5 3 2 = true := by kernel_rfl
theorem q5_4_1 : run5 4 2 = true := by kernel_rfl
theorem q5_5_1 : run5 5 2 = true := by kernel_rfl
theorem q5_6_1 : run5 6 2 = true := by kernel_rfl
theorem q5_7_1 : run5 7 2 = true := by kernel_rfl
theorem s5_0_1 {m : Nat} (h1 : 0 ≤ m) (h2 : m < 8) : run5 m (1 + 1) = true := by
  have h : m = 0 ∨ m = 1 ∨ m = 2 ∨ m = 3 ∨ m = 4 ∨ m = 5 ∨ m = 6 ∨ m = 7 := by omega
  rcases h with rfl | rfl | rfl | rfl | rfl | rfl | rfl | rfl
  · exact q5_0_1
  · exact q5_1_1
  · exact q5_2_1
  · exact q5_3_1
  · exact q5_4_1
  · exact q5_5_1
  · exact q5_6_1
  · exact q5_7_1
end Go.Ev
