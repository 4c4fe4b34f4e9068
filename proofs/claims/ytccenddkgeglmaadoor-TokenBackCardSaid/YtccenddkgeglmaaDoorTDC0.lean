/- The table's functions are the program's, as the evaluator reads it: printed by program. -/
import Derived.Test.YtccenddkgeglmaaDoorTDT
import Derived.Test.YtccenddkgeglmaaDoorProg
import Derived.KernelRfl
set_option linter.all false
set_option linter.unusedVariables false
set_option linter.unusedSimpArgs false
namespace Go.Ev
open Go Go.Proofs
theorem c3 : cFunc Tryd.prog Tryd.f3 = some m3 := by kernel_rfl
theorem c6 : cFunc Tryd.prog Tryd.f6 = some m6 := by kernel_rfl
theorem c15 : cFunc Tryd.prog Tryd.f15 = some m15 := by kernel_rfl
theorem c22 : cFunc Tryd.prog Tryd.f22 = some m22 := by kernel_rfl
theorem c32 : cFunc Tryd.prog Tryd.f32 = some m32 := by kernel_rfl
theorem c35 : cFunc Tryd.prog Tryd.f35 = some m35 := by kernel_rfl
theorem c45 : cFunc Tryd.prog Tryd.f45 = some m45 := by kernel_rfl
theorem c52 : cFunc Tryd.prog Tryd.f52 = some m52 := by kernel_rfl
theorem c55 : cFunc Tryd.prog Tryd.f55 = some m55 := by kernel_rfl
theorem c58 : cFunc Tryd.prog Tryd.f58 = some m58 := by kernel_rfl
theorem c76 : cFunc Tryd.prog Tryd.f76 = some m76 := by kernel_rfl
theorem c86 : cFunc Tryd.prog Tryd.f86 = some m86 := by kernel_rfl
theorem c89 : cFunc Tryd.prog Tryd.f89 = some m89 := by kernel_rfl
theorem c109 : cFunc Tryd.prog Tryd.f109 = some m109 := by kernel_rfl
end Go.Ev
