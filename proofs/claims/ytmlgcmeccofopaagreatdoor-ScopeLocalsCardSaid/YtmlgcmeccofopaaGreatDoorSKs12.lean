/- The runs for 16 to 23 locals, 2 in a block. -/
import Derived.Test.YtmlgcmeccofopaaGreatDoorSKa
import Derived.KernelRfl
set_option linter.all false
set_option linter.unusedVariables false
set_option linter.unusedSimpArgs false
namespace Go.Ev
open Go
set_option maxRecDepth 100000
theorem q5_16_1 : run5 16 2 = true := by kernel_rfl
theorem q5_17_1 : run5 17 2 = true := by kernel_rfl
theorem q5_18_1 : run5 18 2 = true := by kernel_rfl
theorem q5_19_1 : run5 19 2 = true := by kernel_rfl
theorem q5_20_1 : run5 20 2 = true := by kernel_rfl
theorem q5_21_1 : run5 21 2 = true := by kernel_rfl
theorem q5_22_1 : run5 22 2 = true := by kernel_rfl
theorem q5_23_1 : run5 23 2 = true := by kernel_rfl
theorem s5_2_1 {m : Nat} (h1 : 16 ≤ m) (h2 : m < 24) : run5 m (1 + 1) = true := by
  have h : m = 16 ∨ m = 17 ∨ m = 18 ∨ m = 19 ∨ m = 20 ∨ m = 21 ∨ m = 22 ∨ m = 23 := by omega
  rcases h with rfl | rfl | rfl | rfl | rfl | rfl | rfl | rfl
  · exact q5_16_1
  · exact q5_17_1
  · exact q5_18_1
  · exact q5_19_1
  · exact q5_20_1
  · exact q5_21_1
  · exact q5_22_1
  · exact q5_23_1
end Go.Ev
