/- The runs for 24 to 31 locals, 1 in a block. -/
import Derived.Test.YtmlgcmeccofopaaGreatDoorSKa
import Derived.KernelRfl
set_option linter.all false
set_option linter.unusedVariables false
set_option linter.unusedSimpArgs false
namespace Go.Ev
open Go
set_option maxRecDepth 100000
theorem q5_24_0 : run5 24 1 = true := by kernel_rfl
theorem q5_25_0 : run5 25 1 = true := by kernel_rfl
theorem q5_26_0 : run5 26 1 = true := by kernel_rfl
theorem q5_27_0 : run5 27 1 = true := by kernel_rfl
theorem q5_28_0 : run5 28 1 = true := by kernel_rfl
theorem q5_29_0 : run5 29 1 = true := by kernel_rfl
theorem q5_30_0 : run5 30 1 = true := by kernel_rfl
theorem q5_31_0 : run5 31 1 = true := by kernel_rfl
theorem s5_3_0 {m : Nat} (h1 : 24 ≤ m) (h2 : m < 32) : run5 m (1 + 0) = true := by
  have h : m = 24 ∨ m = 25 ∨ m = 26 ∨ m = 27 ∨ m = 28 ∨ m = 29 ∨ m = 30 ∨ m = 31 := by omega
  rcases h with rfl | rfl | rfl | rfl | rfl | rfl | rfl | rfl
  · exact q5_24_0
  · exact q5_25_0
  · exact q5_26_0
  · exact q5_27_0
  · exact q5_28_0
  · exact q5_29_0
  · exact q5_30_0
  · exact q5_31_0
end Go.Ev
