/- The table's functions are the program's, as the evaluator reads it: printed by program. -/
import Derived.Test.YtccenddkgeglmaaDoorXDT
import Derived.Test.YtccenddkgeglmaaDoorProg
import Derived.KernelRfl
set_option linter.all false
set_option linter.unusedVariables false
set_option linter.unusedSimpArgs false
namespace Go.Ev
open Go Go.Proofs
theorem c7 : cFunc Tryd.prog Tryd.f7 = some m7 := by kernel_rfl
theorem c17 : cFunc Tryd.prog Tryd.f17 = some m17 := by kernel_rfl
theorem c20 : cFunc Tryd.prog Tryd.f20 = some m20 := by kernel_rfl
theorem c24 : cFunc Tryd.prog Tryd.f24 = some m24 := by kernel_rfl
theorem c34 : cFunc Tryd.prog Tryd.f34 = some m34 := by kernel_rfl
theorem c38 : cFunc Tryd.prog Tryd.f38 = some m38 := by kernel_rfl
theorem c41 : cFunc Tryd.prog Tryd.f41 = some m41 := by kernel_rfl
theorem c48 : cFunc Tryd.prog Tryd.f48 = some m48 := by kernel_rfl
theorem c52 : cFunc Tryd.prog Tryd.f52 = some m52 := by kernel_rfl
theorem c55 : cFunc Tryd.prog Tryd.f55 = some m55 := by kernel_rfl
theorem c58 : cFunc Tryd.prog Tryd.f58 = some m58 := by kernel_rfl
theorem c63 : cFunc Tryd.prog Tryd.f63 = some m63 := by kernel_rfl
theorem c66 : cFunc Tryd.prog Tryd.f66 = some m66 := by kernel_rfl
theorem c69 : cFunc Tryd.prog Tryd.f69 = some m69 := by kernel_rfl
theorem c72 : cFunc Tryd.prog Tryd.f72 = some m72 := by kernel_rfl
theorem c79 : cFunc Tryd.prog Tryd.f79 = some m79 := by kernel_rfl
theorem c86 : cFunc Tryd.prog Tryd.f86 = some m86 := by kernel_rfl
theorem c89 : cFunc Tryd.prog Tryd.f89 = some m89 := by kernel_rfl
theorem c92 : cFunc Tryd.prog Tryd.f92 = some m92 := by kernel_rfl
theorem c95 : cFunc Tryd.prog Tryd.f95 = some m95 := by kernel_rfl
theorem c98 : cFunc Tryd.prog Tryd.f98 = some m98 := by kernel_rfl
theorem c102 : cFunc Tryd.prog Tryd.f102 = some m102 := by kernel_rfl
theorem c106 : cFunc Tryd.prog Tryd.f106 = some m106 := by kernel_rfl
theorem c114 : cFunc Tryd.prog Tryd.f114 = some m114 := by kernel_rfl
theorem c121 : cFunc Tryd.prog Tryd.f121 = some m121 := by kernel_rfl
end Go.Ev
