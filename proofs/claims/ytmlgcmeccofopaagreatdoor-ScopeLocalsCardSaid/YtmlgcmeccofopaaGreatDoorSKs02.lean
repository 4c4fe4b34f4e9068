/- The runs for 16 to 23 locals, 1 in a block. -/
import Derived.Test.YtmlgcmeccofopaaGreatDoorSKa
import Derived.KernelRfl
set_option linter.all false
set_option linter.unusedVariables false
set_option linter.unusedSimpArgs false
namespace Go.Ev
open Go
set_option maxRecDepth 100000
theorem q5_16_0 : run5 16 1 = true := by kernel_rfl
theorem q5_17_0 : run5 17 1 = true := by kernel_rfl
theorem q5_18_0 : run5 18 1 = true := by kernel_rfl
theorem q5_19_0 : run5 19 1 = true := by kernel_rfl
theorem q5_20_0 : run5 20 1 = true := by kernel_rfl
theorem q5_21_0 : run5 21 1 = true := by kernel_rfl
theorem q5_22_0 : run5 22 1 = true := by kernel_rfl
theorem q5_23_0 : run5 23 1 = true := by kernel_rfl
theorem s5_2_0 {m : Nat} (h1 : 16 ≤ m) (h2 : m < 24) : run5 m (1 + 0) = true := by
  have h : m = 16 ∨ m = 17 ∨ m = 18 ∨ m = 19 ∨ m = 20 ∨ m = 21 ∨ m = 22 ∨ m = 23 := by omega
  rcases h with rfl | rfl | rfl | rfl | rfl | rfl | rfl | rfl
  · exact q5_16_0
  · exact q5_17_0
  · exact q5_18_0
  · exact q5_19_0
  · exact q5_20_0
  · exact q5_21_0
  · exact q5_22_0
  · exact q5_23_0
end Go.Ev
