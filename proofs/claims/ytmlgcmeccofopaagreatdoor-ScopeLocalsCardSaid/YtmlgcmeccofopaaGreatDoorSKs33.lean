/- The runs for 24 to 31 locals, 4 in a block. -/
import Derived.Test.YtmlgcmeccofopaaGreatDoorSKa
import Derived.KernelRfl
set_option linter.all false
set_option linter.unusedVariables false
set_option linter.unusedSimpArgs false
namespace Go.Ev
open Go
set_option maxRecDepth 100000
theorem q5_24_3 : run5 24 4 = true := by kernel_rfl
theorem q5_25_3 : run5 25 4 = true := by kernel_rfl
theorem q5_26_3 : run5 26 4 = true := by kernel_rfl
theorem q5_27_3 : run5 27 4 = true := by kernel_rfl
theorem q5_28_3 : run5 28 4 = true := by kernel_rfl
theorem q5_29_3 : run5 29 4 = true := by kernel_rfl
theorem q5_30_3 : run5 30 4 = true := by kernel_rfl
theorem q5_31_3 : run5 31 4 = true := by kernel_rfl
theorem s5_3_3 {m : Nat} (h1 : 24 ≤ m) (h2 : m < 32) : run5 m (1 + 3) = true := by
  have h : m = 24 ∨ m = 25 ∨ m = 26 ∨ m = 27 ∨ m = 28 ∨ m = 29 ∨ m = 30 ∨ m = 31 := by omega
  rcases h with rfl | rfl | rfl | rfl | rfl | rfl | rfl | rfl
  · exact q5_24_3
  · exact q5_25_3
  · exact q5_26_3
  · exact q5_27_3
  · exact q5_28_3
  · exact q5_29_3
  · exact q5_30_3
  · exact q5_31_3
end Go.Ev
