/- The runs for 32 to 39 locals, 2 in a block. -/
import Derived.Test.YtmlgcmeccofopaaGreatDoorSKa
import Derived.KernelRfl
set_option linter.all false
set_option linter.unusedVariables false
set_option linter.unusedSimpArgs false
namespace Go.Ev
open Go
set_option maxRecDepth 100000
theorem q5_32_1 : run5 32 2 = true := by kernel_rfl
theorem q5_33_1 : run5 33 2 = true := by kernel_rfl
theorem q5_34_1 : run5 34 2 = true := by kernel_rfl
theorem q5_35_1 : run5 35 2 = true := by kernel_rfl
theorem q5_36_1 : run5 36 2 = true := by kernel_rfl
theorem q5_37_1 : run5 37 2 = true := by kernel_rfl
theorem q5_38_1 : run5 38 2 = true := by kernel_rfl
theorem q5_39_1 : run5 39 2 = true := by kernel_rfl
theorem s5_4_1 {m : Nat} (h1 : 32 ≤ m) (h2 : m < 40) : run5 m (1 + 1) = true := by
  have h : m = 32 ∨ m = 33 ∨ m = 34 ∨ m = 35 ∨ m = 36 ∨ m = 37 ∨ m = 38 ∨ m = 39 := by omega
  rcases h with rfl | rfl | rfl | rfl | rfl | rfl | rfl | rfl
  · exact q5_32_1
  · exact q5_33_1
  · exact q5_34_1
  · exact q5_35_1
  · exact q5_36_1
  · exact q5_37_1
  · exact q5_38_1
  · exact q5_39_1
end Go.Ev
