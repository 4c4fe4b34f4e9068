/- The table's functions are the program's, as the evaluator reads it: printed by program. -/
import Derived.Test.YtjfagfoekpnofaaDoorPDT
import Derived.Test.YtjfagfoekpnofaaDoorProg
import Derived.KernelRfl
set_option linter.all false
set_option linter.unusedVariables false
set_option linter.unusedSimpArgs false
namespace Go.Ev
open Go Go.Proofs
theorem c4 : cFunc Tryd.prog Tryd.f4 = some m4 := by kernel_rfl
theorem c7 : cFunc Tryd.prog Tryd.f7 = some m7 := by kernel_rfl
theorem c10 : cFunc Tryd.prog Tryd.f10 = some m10 := by kernel_rfl
theorem c13 : cFunc Tryd.prog Tryd.f13 = some m13 := by kernel_rfl
theorem c16 : cFunc Tryd.prog Tryd.f16 = some m16 := by kernel_rfl
theorem c19 : cFunc Tryd.prog Tryd.f19 = some m19 := by kernel_rfl
theorem c23 : cFunc Tryd.prog Tryd.f23 = some m23 := by kernel_rfl
theorem c26 : cFunc Tryd.prog Tryd.f26 = some m26 := by kernel_rfl
theorem c29 : cFunc Tryd.prog Tryd.f29 = some m29 := by kernel_rfl
theorem c34 : cFunc Tryd.prog Tryd.f34 = some m34 := by kernel_rfl
theorem c37 : cFunc Tryd.prog Tryd.f37 = some m37 := by kernel_rfl
theorem c40 : cFunc Tryd.prog Tryd.f40 = some m40 := by kernel_rfl
theorem c43 : cFunc Tryd.prog Tryd.f43 = some m43 := by kernel_rfl
theorem c46 : cFunc Tryd.prog Tryd.f46 = some m46 := by kernel_rfl
theorem c49 : cFunc Tryd.prog Tryd.f49 = some m49 := by kernel_rfl
end Go.Ev
