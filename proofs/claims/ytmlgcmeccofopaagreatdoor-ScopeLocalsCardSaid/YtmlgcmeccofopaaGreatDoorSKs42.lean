/- The runs for 16 to 23 locals, 5 in a block. -/
import Derived.Test.YtmlgcmeccofopaaGreatDoorSKa
import Derived.KernelRfl
set_option linter.all false
set_option linter.unusedVariables false
set_option linter.unusedSimpArgs false
namespace Go.Ev
open Go
set_option maxRecDepth 100000
theorem q5_16_4 : run5 16 5 = true := by kernel_rfl
theorem q5_17_4 : run5 17 5 = true := by kernel_rfl
theorem q5_18_4 : run5 18 5 = true := by kernel_rfl
theorem q5_19_4 : run5 19 5 = true := by kernel_rfl
theorem q5_20_4 : run5 20 5 = true := by kernel_rfl
theorem q5_21_4 : run5 21 5 = true := by kernel_rfl
theorem q5_22_4 : run5 22 5 = true := by kernel_rfl
theorem q5_23_4 : run5 23 5 = true := by kernel_rfl
theorem s5_2_4 {m : Nat} (h1 : 16 ≤ m) (h2 : m < 24) : run5 m (1 + 4) = true := by
  have h : m = 16 ∨ m = 17 ∨ m = 18 ∨ m = 19 ∨ m = 20 ∨ m = 21 ∨ m = 22 ∨ m = 23 := by omega
  rcases h with rfl | rfl | rfl | rfl | rfl | rfl | rfl | rfl
  · exact q5_16_4
  · exact q5_17_4
  · exact q5_18_4
  · exact q5_19_4
  · exact q5_20_4
  · exact q5_21_4
  · exact q5_22_4
  · exact q5_23_4
end Go.Ev
