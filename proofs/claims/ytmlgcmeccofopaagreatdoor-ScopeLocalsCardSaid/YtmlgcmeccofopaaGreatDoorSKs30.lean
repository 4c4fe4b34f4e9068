/- The runs for 0 to 7 locals, 4 in a block. -/
import Derived.Test.YtmlgcmeccofopaaGreatDoorSKa
import Derived.KernelRfl
set_option linter.all false
set_option linter.unusedVariables false
set_option linter.unusedSimpArgs false
namespace Go.Ev
open Go
set_option maxRecDepth 100000
theorem q5_0_3 : run5 0 4 = true := by kernel_rfl
theorem q5_1_3 : run5 1 4 = true := by kernel_rfl
theorem q5_2_3 : run5 2 4 = true := by kernel_rfl
theorem q5_3_3 : run5 3 4 = true := by kernel_rfl
theorem q5_4_3 : run5 4 4 = true := by kernel_rfl
theorem q5_5_3 : run5 5 4 = true := by kernel_rfl
theorem q5_6_3 : run5 6 4 = true := by kernel_rfl
theorem q5_7_3 : run5 7 4 = true := by kernel_rfl
theorem s5_0_3 {m : Nat} (h1 : 0 ≤ m) (h2 : m < 8) : run5 m (1 + 3) = true := by
  have h : m = 0 ∨ m = 1 ∨ m = 2 ∨ m = 3 ∨ m = 4 ∨ m = 5 ∨ m = 6 ∨ m = 7 := by omega
  rcases h with rfl | rfl | rfl | rfl | rfl | rfl | rfl | rfl
  · exact q5_0_3
  · exact q5_1_3
  · exact q5_2_3
  · exact q5_3_3
  · exact q5_4_3
  · exact q5_5_3
  · exact q5_6_3
  · exact q5_7_3
end Go.Ev
