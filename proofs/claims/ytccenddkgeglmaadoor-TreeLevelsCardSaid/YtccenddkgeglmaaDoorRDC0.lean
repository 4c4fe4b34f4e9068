/- The table's functions are the program's, as the evaluator reads it: printed by program. -/
import Derived.Test.YtccenddkgeglmaaDoorRDT
import Derived.Test.YtccenddkgeglmaaDoorProg
import Derived.KernelRfl
set_option linter.all false
set_option linter.unusedVariables false
set_option linter.unusedSimpArgs false
namespace Go.Ev
open Go Go.Proofs
theorem c7 : cFunc Tryd.prog Tryd.f7 = some m7 := by kernel_rfl
theorem c11 : cFunc Tryd.prog Tryd.f11 = some m11 := by kernel_rfl
theorem c14 : cFunc Tryd.prog Tryd.f14 = some m14 := by kernel_rfl
theorem c18 : cFunc Tryd.prog Tryd.f18 = some m18 := by kernel_rfl
theorem c21 : cFunc Tryd.prog Tryd.f21 = some m21 := by kernel_rfl
theorem c25 : cFunc Tryd.prog Tryd.f25 = some m25 := by kernel_rfl
theorem c28 : cFunc Tryd.prog Tryd.f28 = some m28 := by kernel_rfl
theorem c31 : cFunc Tryd.prog Tryd.f31 = some m31 := by kernel_rfl
theorem c34 : cFunc Tryd.prog Tryd.f34 = some m34 := by kernel_rfl
theorem c38 : cFunc Tryd.prog Tryd.f38 = some m38 := by kernel_rfl
theorem c41 : cFunc Tryd.prog Tryd.f41 = some m41 := by kernel_rfl
theorem c46 : cFunc Tryd.prog Tryd.f46 = some m46 := by kernel_rfl
theorem c49 : cFunc Tryd.prog Tryd.f49 = some m49 := by kernel_rfl
theorem c52 : cFunc Tryd.prog Tryd.f52 = some m52 := by kernel_rfl
theorem c55 : cFunc Tryd.prog Tryd.f55 = some m55 := by kernel_rfl
theorem c58 : cFunc Tryd.prog Tryd.f58 = some m58 := by kernel_rfl
theorem c63 : cFunc Tryd.prog Tryd.f63 = some m63 := by kernel_rfl
theorem c66 : cFunc Tryd.prog Tryd.f66 = some m66 := by kernel_rfl
theorem c69 : cFunc Tryd.prog Tryd.f69 = some m69 := by kernel_rfl
theorem c72 : cFunc Tryd.prog Tryd.f72 = some m72 := by kernel_rfl
theorem c79 : cFunc Tryd.prog Tryd.f79 = some m79 := by kernel_rfl
theorem c82 : cFunc Tryd.prog Tryd.f82 = some m82 := by kernel_rfl
theorem c85 : cFunc Tryd.prog Tryd.f85 = some m85 := by kernel_rfl
theorem c88 : cFunc Tryd.prog Tryd.f88 = some m88 := by kernel_rfl
theorem c91 : cFunc Tryd.prog Tryd.f91 = some m91 := by kernel_rfl
theorem c94 : cFunc Tryd.prog Tryd.f94 = some m94 := by kernel_rfl
theorem c97 : cFunc Tryd.prog Tryd.f97 = some m97 := by kernel_rfl
theorem c101 : cFunc Tryd.prog Tryd.f101 = some m101 := by kernel_rfl
theorem c104 : cFunc Tryd.prog Tryd.f104 = some m104 := by kernel_rfl
theorem c107 : cFunc Tryd.prog Tryd.f107 = some m107 := by kernel_rfl
theorem c114 : cFunc Tryd.prog Tryd.f114 = some m114 := by kernel_rfl
theorem c118 : cFunc Tryd.prog Tryd.f118 = some m118 := by kernel_rfl
theorem c121 : cFunc Tryd.prog Tryd.f121 = some m121 := by kernel_rfl
end Go.Ev
