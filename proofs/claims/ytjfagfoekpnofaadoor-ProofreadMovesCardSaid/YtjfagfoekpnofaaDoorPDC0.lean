/- The table's functions are the program's, as the evaluator reads it: printed by program. -/
import Derived.Test.YtjfagfoekpnofaaDoorPDT
import Derived.Test.YtjfagfoekpnofaaDoorProg
import Derived.KernelRfl
set_option linter.all false
set_option linter.unusedVariables false
set_option linter.unusedSimpArgs false
namespace Go.Ev
open Go Go.Proofs
theorem c3 : cFunc Tryd.prog Tryd.f3 = some m3 := by kernel_rfl
theorem c6 : cFunc Tryd.prog Tryd.f6 = some m6 := by kernel_rfl
theorem c9 : cFunc Tryd.prog Tryd.f9 = some m9 := by kernel_rfl
theorem c12 : cFunc Tryd.prog Tryd.f12 = some m12 := by kernel_rfl
theorem c15 : cFunc Tryd.prog Tryd.f15 = some m15 := by kernel_rfl
theorem c18 : cFunc Tryd.prog Tryd.f18 = some m18 := by kernel_rfl
theorem c21 : cFunc Tryd.prog Tryd.f21 = some m21 := by kernel_rfl
theorem c25 : cFunc Tryd.prog Tryd.f25 = some m25 := by kernel_rfl
theorem c28 : cFunc Tryd.prog Tryd.f28 = some m28 := by kernel_rfl
theorem c33 : cFunc Tryd.prog Tryd.f33 = some m33 := by kernel_rfl
theorem c36 : cFunc Tryd.prog Tryd.f36 = some m36 := by kernel_rfl
theorem c39 : cFunc Tryd.prog Tryd.f39 = some m39 := by kernel_rfl
theorem c42 : cFunc Tryd.prog Tryd.f42 = some m42 := by kernel_rfl
theorem c45 : cFunc Tryd.prog Tryd.f45 = some m45 := by kernel_rfl
theorem c48 : cFunc Tryd.prog Tryd.f48 = some m48 := by kernel_rfl
end Go.Ev
