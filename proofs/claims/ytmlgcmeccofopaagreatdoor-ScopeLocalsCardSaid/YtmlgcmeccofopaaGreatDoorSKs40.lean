/- The runs for 0 to 7 locals, 5 in a block. -/
import Derived.Test.YtmlgcmeccofopaaGreatDoorSKa
import Derived.KernelRfl
set_option linter.all false
set_option linter.unusedVariables false
set_option linter.unusedSimpArgs false
namespace Go.Ev
open Go
set_option maxRecDepth 100000
theorem q5_0_4 : run5 0 5 = true := by kernel_rfl
theorem q5_1_4 : run5 1 5 = true := by kernel_rfl
theorem q5_2_4 : run5 2 5 = true := by kernel_rfl
theorem q5_3_4 : run5 3 5 = true := by kernel_rfl
theorem q5_4_4 : run5 4 5 = true := by kernel_rfl
theorem q5_5_4 : run5 5 5 = true := by kernel_rfl
theorem q5_6_4 : run5 6 5 = true := by kernel_rfl
theorem q5_7_4 : run5 7 5 = true := by kernel_rfl
theorem s5_0_4 {m : Nat} (h1 : 0 ≤ m) (h2 : m < 8) : run5 m (1 + 4) = true := by
  have h : m = 0 ∨ m = 1 ∨ m = 2 ∨ m = 3 ∨ m = 4 ∨ m = 5 ∨ m = 6 ∨ m = 7 := by omega
  rcases h with rfl | rfl | rfl | rfl | rfl | rfl | rfl | rfl
  · exact q5_0_4
  · exact q5_1_4
  · exact q5_2_4
  · exact q5_3_4
  · exact q5_4_4
  · exact q5_5_4
  · exact q5_6_4
  · exact q5_7_4
end Go.Ev
