/- The table's functions are the program's, as the evaluator reads it: printed by program. -/
import Derived.Test.YtccenddkgeglmaaDoorSDT
import Derived.Test.YtccenddkgeglmaaDoorProg
import Derived.KernelRfl
set_option linter.all false
set_option linter.unusedVariables false
set_option linter.unusedSimpArgs false
namespace Go.Ev
open Go Go.Proofs
theorem c14 : cFunc Tryd.prog Tryd.f14 = some m14 := by kernel_rfl
theorem c18 : cFunc Tryd.prog Tryd.f18 = some m18 := by kernel_rfl
theorem c23 : cFunc Tryd.prog Tryd.f23 = some m23 := by kernel_rfl
theorem c27 : cFunc Tryd.prog Tryd.f27 = some m27 := by kernel_rfl
theorem c32 : cFunc Tryd.prog Tryd.f32 = some m32 := by kernel_rfl
theorem c35 : cFunc Tryd.prog Tryd.f35 = some m35 := by kernel_rfl
theorem c45 : cFunc Tryd.prog Tryd.f45 = some m45 := by kernel_rfl
theorem c50 : cFunc Tryd.prog Tryd.f50 = some m50 := by kernel_rfl
theorem c53 : cFunc Tryd.prog Tryd.f53 = some m53 := by kernel_rfl
theorem c56 : cFunc Tryd.prog Tryd.f56 = some m56 := by kernel_rfl
theorem c59 : cFunc Tryd.prog Tryd.f59 = some m59 := by kernel_rfl
theorem c64 : cFunc Tryd.prog Tryd.f64 = some m64 := by kernel_rfl
theorem c78 : cFunc Tryd.prog Tryd.f78 = some m78 := by kernel_rfl
theorem c85 : cFunc Tryd.prog Tryd.f85 = some m85 := by kernel_rfl
theorem c88 : cFunc Tryd.prog Tryd.f88 = some m88 := by kernel_rfl
theorem c101 : cFunc Tryd.prog Tryd.f101 = some m101 := by kernel_rfl
theorem c105 : cFunc Tryd.prog Tryd.f105 = some m105 := by kernel_rfl
theorem c119 : cFunc Tryd.prog Tryd.f119 = some m119 := by kernel_rfl
end Go.Ev
