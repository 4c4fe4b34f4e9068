/- The table's functions are the program's, as the evaluator reads it: printed by program. -/
import Derived.Test.YtccenddkgeglmaaDoorTDT
import Derived.Test.YtccenddkgeglmaaDoorProg
import Derived.KernelRfl
set_option linter.all false
set_option linter.unusedVariables false
set_option linter.unusedSimpArgs false
namespace Go.Ev
open Go Go.Proofs
theorem c4 : cFunc Tryd.prog Tryd.f4 = some m4 := by kernel_rfl
theorem c10 : cFunc Tryd.prog Tryd.f10 = some m10 := by kernel_rfl
theorem c16 : cFunc Tryd.prog Tryd.f16 = some m16 := by kernel_rfl
theorem c23 : cFunc Tryd.prog Tryd.f23 = some m23 := by kernel_rfl
theorem c33 : cFunc Tryd.prog Tryd.f33 = some m33 := by kernel_rfl
theorem c43 : cFunc Tryd.prog Tryd.f43 = some m43 := by kernel_rfl
theorem c50 : cFunc Tryd.prog Tryd.f50 = some m50 := by kernel_rfl
theorem c53 : cFunc Tryd.prog Tryd.f53 = some m53 := by kernel_rfl
theorem c56 : cFunc Tryd.prog Tryd.f56 = some m56 := by kernel_rfl
theorem c59 : cFunc Tryd.prog Tryd.f59 = some m59 := by kernel_rfl
theorem c77 : cFunc Tryd.prog Tryd.f77 = some m77 := by kernel_rfl
theorem c87 : cFunc Tryd.prog Tryd.f87 = some m87 := by kernel_rfl
theorem c100 : cFunc Tryd.prog Tryd.f100 = some m100 := by kernel_rfl
theorem c110 : cFunc Tryd.prog Tryd.f110 = some m110 := by kernel_rfl
end Go.Ev
