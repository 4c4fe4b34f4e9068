/- The runs for 24 to 31 locals, 5 in a block. -/
import Derived.Test.YtmlgcmeccofopaaGreatDoorSKa
import Derived.KernelRfl
set_option linter.all false
set_option linter.unusedVariables false
set_option linter.unusedSimpArgs false
namespace Go.Ev
open Go
set_option maxRecDepth 100000
theorem q5_24_4 : run5 24 5 = true := by kernel_rfl
theorem q5_25_4 : run5 25 5 = true := by kernel_rfl
theorem q5_26_4 : run5 26 5 = true := by kernel_rfl
theorem q5_27_4 : run5 27 5 = true := by kernel_rfl
theorem q5_28_4 : run5 28 5 = true := by kernel_rfl
theorem q5_29_4 : run5 29 5 = true := by kernel_rfl
theorem q5_30_4 : run5 30 5 = true := by kernel_rfl
theorem q5_31_4 : run5 31 5 = true := by kernel_rfl
theorem s5_3_4 {m : Nat} (h1 : 24 ≤ m) (h2 : m < 32) : run5 m (1 + 4) = true := by
  have h : m = 24 ∨ m = 25 ∨ m = 26 ∨ m = 27 ∨ m = 28 ∨ m = 29 ∨ m = 30 ∨ m = 31 := by omega
  rcases h with rfl | rfl | rfl | rfl | rfl | rfl | rfl | rfl
  · exact q5_24_4
  · exact q5_25_4
  · exact q5_26_4
  · exact q5_27_4
  · exact q5_28_4
  · exact q5_29_4
  · exact q5_30_4
  · exact q5_31_4
end Go.Ev
