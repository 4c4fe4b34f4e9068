/- The table's functions are the program's, as the evaluator reads it: printed by program. -/
import Derived.Test.YtccenddkgeglmaaDoorRDT
import Derived.Test.YtccenddkgeglmaaDoorProg
import Derived.KernelRfl
set_option linter.all false
set_option linter.unusedVariables false
set_option linter.unusedSimpArgs false
namespace Go.Ev
open Go Go.Proofs
theorem c13 : cFunc Tryd.prog Tryd.f13 = some m13 := by kernel_rfl
theorem c17 : cFunc Tryd.prog Tryd.f17 = some m17 := by kernel_rfl
theorem c23 : cFunc Tryd.prog Tryd.f23 = some m23 := by kernel_rfl
theorem c32 : cFunc Tryd.prog Tryd.f32 = some m32 := by kernel_rfl
theorem c35 : cFunc Tryd.prog Tryd.f35 = some m35 := by kernel_rfl
theorem c45 : cFunc Tryd.prog Tryd.f45 = some m45 := by kernel_rfl
theorem c49 : cFunc Tryd.prog Tryd.f49 = some m49 := by kernel_rfl
theorem c52 : cFunc Tryd.prog Tryd.f52 = some m52 := by kernel_rfl
theorem c55 : cFunc Tryd.prog Tryd.f55 = some m55 := by kernel_rfl
theorem c58 : cFunc Tryd.prog Tryd.f58 = some m58 := by kernel_rfl
theorem c63 : cFunc Tryd.prog Tryd.f63 = some m63 := by kernel_rfl
theorem c66 : cFunc Tryd.prog Tryd.f66 = some m66 := by kernel_rfl
theorem c80 : cFunc Tryd.prog Tryd.f80 = some m80 := by kernel_rfl
theorem c83 : cFunc Tryd.prog Tryd.f83 = some m83 := by kernel_rfl
theorem c86 : cFunc Tryd.prog Tryd.f86 = some m86 := by kernel_rfl
theorem c89 : cFunc Tryd.prog Tryd.f89 = some m89 := by kernel_rfl
theorem c102 : cFunc Tryd.prog Tryd.f102 = some m102 := by kernel_rfl
theorem c105 : cFunc Tryd.prog Tryd.f105 = some m105 := by kernel_rfl
theorem c113 : cFunc Tryd.prog Tryd.f113 = some m113 := by kernel_rfl
theorem c118 : cFunc Tryd.prog Tryd.f118 = some m118 := by kernel_rfl
theorem c121 : cFunc Tryd.prog Tryd.f121 = some m121 := by kernel_rfl
end Go.Ev
