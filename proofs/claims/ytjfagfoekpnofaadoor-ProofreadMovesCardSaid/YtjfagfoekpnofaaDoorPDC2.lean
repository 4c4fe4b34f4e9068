/- The table's functions are the program's, as the evaluator reads it: printed by program. -/
import Derived.Test.YtjfagfoekpnofaaDoorPDT
import Derived.Test.YtjfagfoekpnofaaDoorProg
import Derived.KernelRfl
set_option linter.all false
set_option linter.unusedVariables false
set_option linter.unusedSimpArgs false
namespace Go.Ev
open Go Go.Proofs
theorem c5 : cFunc Tryd.prog Tryd.f5 = some m5 := by kernel_rfl
theorem c8 : cFunc Tryd.prog Tryd.f8 = some m8 := by kernel_rfl
theorem c11 : cFunc Tryd.prog Tryd.f11 = some m11 := by kernel_rfl
theorem c14 : cFunc Tryd.prog Tryd.f14 = some m14 := by kernel_rfl
theorem c17 : cFunc Tryd.prog Tryd.f17 = some m17 := by kernel_rfl
theorem c20 : cFunc Tryd.prog Tryd.f20 = some m20 := by kernel_rfl
theorem c24 : cFunc Tryd.prog Tryd.f24 = some m24 := by kernel_rfl
theorem c27 : cFunc Tryd.prog Tryd.f27 = some m27 := by kernel_rfl
theorem c30 : cFunc Tryd.prog Tryd.f30 = some m30 := by kernel_rfl
theorem c35 : cFunc Tryd.prog Tryd.f35 = some m35 := by kernel_rfl
theorem c38 : cFunc Tryd.prog Tryd.f38 = some m38 := by kernel_rfl
theorem c41 : cFunc Tryd.prog Tryd.f41 = some m41 := by kernel_rfl
theorem c44 : cFunc Tryd.prog Tryd.f44 = some m44 := by kernel_rfl
theorem c47 : cFunc Tryd.prog Tryd.f47 = some m47 := by kernel_rfl
theorem c50 : cFunc Tryd.prog Tryd.f50 = some m50 := by kernel_rfl
end Go.Ev
