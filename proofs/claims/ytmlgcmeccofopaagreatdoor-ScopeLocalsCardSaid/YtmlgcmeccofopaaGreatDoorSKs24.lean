/- The runs for 32 to 39 locals, 3 in a block. -/
import Derived.Test.YtmlgcmeccofopaaGreatDoorSKa
import Derived.KernelRfl
set_option linter.all false
set_option linter.unusedVariables false
set_option linter.unusedSimpArgs false
namespace Go.Ev
open Go
set_option maxRecDepth 100000
theorem q5_32_2 : run5 32 3 = true := by kernel_rfl
theorem q5_33_2 : run5 33 3 = true := by kernel_rfl
theorem q5_34_2 : run5 34 3 = true := by kernel_rfl
theorem q5_35_2 : run5 35 3 = true := by kernel_rfl
theorem q5_36_2 : run5 36 3 = true := by kernel_rfl
theorem q5_37_2 : run5 37 3 = true := by kernel_rfl
theorem q5_38_2 : run5 38 3 = true := by kernel_rfl
theorem q5_39_2 : run5 39 3 = true := by kernel_rfl
theorem s5_4_2 {m : Nat} (h1 : 32 ≤ m) (h2 : m < 40) : run5 m (1 + 2) = true := by
  have h : m = 32 ∨ m = 33 ∨ m = 34 ∨ m = 35 ∨ m = 36 ∨ m = 37 ∨ m = 38 ∨ m = 39 := by omega
  rcases h with rfl | rfl | rfl | rfl | rfl | rfl | rfl | rfl
  · exact q5_32_2
  · exact q5_33_2
  · exact q5_34_2
  · exact q5_35_2
  · exact q5_36_2
  · exact q5_37_2
  · exact q5_38_2
  · exact q5_39_2
end Go.Ev
