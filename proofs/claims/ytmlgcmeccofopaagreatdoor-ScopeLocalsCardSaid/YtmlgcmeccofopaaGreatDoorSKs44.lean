/- The runs for 32 to 39 locals, 5 in a block. -/
import Derived.Test.YtmlgcmeccofopaaGreatDoorSKa
import Derived.KernelRfl
set_option linter.all false
set_option linter.unusedVariables false
set_option linter.unusedSimpArgs false
namespace Go.Ev
open Go
set_option maxRecDepth 100000
theorem q5_32_4 : run5 32 5 = true := by kernel_rfl
theorem q5_33_4 : run5 33 5 = true := by kernel_rfl
theorem q5_34_4 : run5 34 5 = true := by kernel_rfl
theorem q5_35_4 : run5 35 5 = true := by kernel_rfl
theorem q5_36_4 : run5 36 5 = true := by kernel_rfl
theorem q5_37_4 : run5 37 5 = true := by kernel_rfl
theorem q5_38_4 : run5 38 5 = true := by kernel_rfl
theorem q5_39_4 : run5 39 5 = true := by kernel_rfl
theorem s5_4_4 {m : Nat} (h1 : 32 ≤ m) (h2 : m < 40) : run5 m (1 + 4) = true := by
  have h : m = 32 ∨ m = 33 ∨ m = 34 ∨ m = 35 ∨ m = 36 ∨ m = 37 ∨ m = 38 ∨ m = 39 := by omega
  rcases h with rfl | rfl | rfl | rfl | rfl | rfl | rfl | rfl
  · exact q5_32_4
  · exact q5_33_4
  · exact q5_34_4
  · exact q5_35_4
  · exact q5_36_4
  · exact q5_37_4
  · exact q5_38_4
  · exact q5_39_4
end Go.Ev
