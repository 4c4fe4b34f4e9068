/- The runs for 16 to 23 locals, 3 in a block. -/
import Derived.Test.YtmlgcmeccofopaaGreatDoorSKa
import Derived.KernelRfl
set_option linter.all false
set_option linter.unusedVariables false
set_option linter.unusedSimpArgs false
namespace Go.Ev
open Go
set_option maxRecDepth 100000
theorem q5_16_2 : run5 16 3 = true := by kernel_rfl
theorem q5_17_2 : run5 17 3 = true := by kernel_rfl
theorem q5_18_2 : run5 18 3 = true := by kernel_rfl
theorem q5_19_2 : run5 19 3 = true := by kernel_rfl
theorem q5_20_2 : run5 20 3 = true := by kernel_rfl
theorem q5_21_2 : run5 21 3 = true := by kernel_rfl
theorem q5_22_2 : run5 22 3 = true := by kernel_rfl
theorem q5_23_2 : run5 23 3 = true := by kernel_rfl
theorem s5_2_2 {m : Nat} (h1 : 16 ≤ m) (h2 : m < 24) : run5 m (1 + 2) = true := by
  have h : m = 16 ∨ m = 17 ∨ m = 18 ∨ m = 19 ∨ m = 20 ∨ m = 21 ∨ m = 22 ∨ m = 23 := by omega
  rcases h with rfl | rfl | rfl | rfl | rfl | rfl | rfl | rfl
  · exact q5_16_2
  · exact q5_17_2
  · exact q5_18_2
  · exact q5_19_2
  · exact q5_20_2
  · exact q5_21_2
  · exact q5_22_2
  · exact q5_23_2
end Go.Ev
