/- The runs for 16 to 23 locals, 4 in a block. -/
import Derived.Test.YtmlgcmeccofopaaGreatDoorSKa
import Derived.KernelRfl
set_option linter.all false
set_option linter.unusedVariables false
set_option linter.unusedSimpArgs false
namespace Go.Ev
open Go
set_option maxRecDepth 100000
theorem q5_16_3 : run5 16 4 = true := by kernel_rfl
theorem q5_17_3 : run5 17 4 = true := by kernel_rfl
theorem q5_18_3 : run5 18 4 = true := by kernel_rfl
theorem q5_19_3 : run5 19 4 = true := by kernel_rfl
theorem q5_20_3 : run5 20 4 = true := by kernel_rfl
theorem q5_21_3 : run5 21 4 = true := by kernel_rfl
theorem q5_22_3 : run5 22 4 = true := by kernel_rfl
theorem q5_23_3 : run5 23 4 = true := by kernel_rfl
theorem s5_2_3 {m : Nat} (h1 : 16 ≤ m) (h2 : m < 24) : run5 m (1 + 3) = true := by
  have h : m = 16 ∨ m = 17 ∨ m = 18 ∨ m = 19 ∨ m = 20 ∨ m = 21 ∨ m = 22 ∨ m = 23 := by omega
  rcases h with rfl | rfl | rfl | rfl | rfl | rfl | rfl | rfl
  · exact q5_16_3
  · exact q5_17_3
  · exact q5_18_3
  · exact q5_19_3
  · exact q5_20_3
  · exact q5_21_3
  · exact q5_22_3
  · exact q5_23_3
end Go.Ev
