/- The runs for 24 to 31 locals, 3 in a block. -/
import Derived.Test.YtmlgcmeccofopaaGreatDoorSKa
import Derived.KernelRfl
set_option linter.all false
set_option linter.unusedVariables false
set_option linter.unusedSimpArgs false
namespace Go.Ev
open Go
set_option maxRecDepth 100000
theorem q5_24_2 : run5 24 3 = true := by kernel_rfl
theorem q5_25_2 : run5 25 3 = true := by kernel_rfl
theorem q5_26_2 : run5 26 3 = true := by kernel_rfl
theorem q5_27_2 : run5 27 3 = true := by kernel_rfl
theorem q5_28_2 : run5 28 3 = true := by kernel_rfl
theorem q5_29_2 : run5 29 3 = true := by kernel_rfl
theorem q5_30_2 : run5 30 3 = true := by kernel_rfl
theorem q5_31_2 : run5 31 3 = true := by kernel_rfl
theorem s5_3_2 {m : Nat} (h1 : 24 ≤ m) (h2 : m < 32) : run5 m (1 + 2) = true := by
  have h : m = 24 ∨ m = 25 ∨ m = 26 ∨ m = 27 ∨ m = 28 ∨ m = 29 ∨ m = 30 ∨ m = 31 := by omega
  rcases h with rfl | rfl | rfl | rfl | rfl | rfl | rfl | rfl
  · exact q5_24_2
  · exact q5_25_2
  · exact q5_26_2
  · exact q5_27_2
  · exact q5_28_2
  · exact q5_29_2
  · exact q5_30_2
  · exact q5_31_2
end Go.Ev
