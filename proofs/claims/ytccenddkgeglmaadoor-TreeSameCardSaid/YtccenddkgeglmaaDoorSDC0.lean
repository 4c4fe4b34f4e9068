/- The table's functions are the program's, as the evaluator reads it: printed by program. -/
import Derived.Test.YtccenddkgeglmaaDoorSDT
import Derived.Test.YtccenddkgeglmaaDoorProg
import Derived.KernelRfl
set_option linter.all false
set_option linter.unusedVariables false
set_option linter.unusedSimpArgs false
namespace Go.Ev
open Go Go.Proofs
theorem c11 : cFunc Tryd.prog Tryd.f11 = some m11 := by kernel_rfl
theorem c17 : cFunc Tryd.prog Tryd.f17 = some m17 := by kernel_rfl
theorem c21 : cFunc Tryd.prog Tryd.f21 = some m21 := by kernel_rfl
theorem c26 : cFunc Tryd.prog Tryd.f26 = some m26 := by kernel_rfl
theorem c29 : cFunc Tryd.prog Tryd.f29 = some m29 := by kernel_rfl
theorem c34 : cFunc Tryd.prog Tryd.f34 = some m34 := by kernel_rfl
theorem c38 : cFunc Tryd.prog Tryd.f38 = some m38 := by kernel_rfl
theorem c48 : cFunc Tryd.prog Tryd.f48 = some m48 := by kernel_rfl
theorem c52 : cFunc Tryd.prog Tryd.f52 = some m52 := by kernel_rfl
theorem c55 : cFunc Tryd.prog Tryd.f55 = some m55 := by kernel_rfl
theorem c58 : cFunc Tryd.prog Tryd.f58 = some m58 := by kernel_rfl
theorem c63 : cFunc Tryd.prog Tryd.f63 = some m63 := by kernel_rfl
theorem c66 : cFunc Tryd.prog Tryd.f66 = some m66 := by kernel_rfl
theorem c80 : cFunc Tryd.prog Tryd.f80 = some m80 := by kernel_rfl
theorem c87 : cFunc Tryd.prog Tryd.f87 = some m87 := by kernel_rfl
theorem c90 : cFunc Tryd.prog Tryd.f90 = some m90 := by kernel_rfl
theorem c104 : cFunc Tryd.prog Tryd.f104 = some m104 := by kernel_rfl
theorem c113 : cFunc Tryd.prog Tryd.f113 = some m113 := by kernel_rfl
theorem c121 : cFunc Tryd.prog Tryd.f121 = some m121 := by kernel_rfl
end Go.Ev
