/- The runs for 8 to 15 locals, 4 in a block. -/
import Derived.Test.YtmlgcmeccofopaaGreatDoorSKa
import Derived.KernelRfl
set_option linter.all false
set_option linter.unusedVariables false
set_option linter.unusedSimpArgs false
namespace Go.Ev
open Go
set_option maxRecDepth 100000
theorem q5_8_3 : run5 8 4 = true := by kernel_rfl
theorem q5_9_3 : run5 9 4 = true := by kernel_rfl
theorem q5_10_3 : run5 10 4 = true := by kernel_rfl
theorem q5_11_3 : run5 11 4 = true := by kernel_rfl
theorem q5_12_3 : run5 12 4 = true := by kernel_rfl
theorem q5_13_3 : run5 13 4 = true := by kernel_rfl
theorem q5_14_3 : run5 14 4 = true := by kernel_rfl
theorem q5_15_3 : run5 15 4 = true := by kernel_rfl
theorem s5_1_3 {m : Nat} (h1 : 8 ≤ m) (h2 : m < 16) : run5 m (1 + 3) = true := by
  have h : m = 8 ∨ m = 9 ∨ m = 10 ∨ m = 11 ∨ m = 12 ∨ m = 13 ∨ m = 14 ∨ m = 15 := by omega
  rcases h with rfl | rfl | rfl | rfl | rfl | rfl | rfl | rfl
  · exact q5_8_3
  · exact q5_9_3
  · exact q5_10_3
  · exact q5_11_3
  · exact q5_12_3
  · exact q5_13_3
  · exact q5_14_3
  · exact q5_15_3
end Go.Ev
