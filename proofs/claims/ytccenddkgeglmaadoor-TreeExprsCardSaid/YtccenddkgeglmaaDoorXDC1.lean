/- The table's functions are the program's, as the evaluator reads it: printed by program. -/
import Derived.Test.YtccenddkgeglmaaDoorXDT
import Derived.Test.YtccenddkgeglmaaDoorProg
import Derived.KernelRfl
set_option linter.all false
set_option linter.unusedVariables false
set_option linter.unusedSimpArgs false
namespace Go.Ev
open Go Go.Proofs
theorem c14 : cFunc Tryd.prog Tryd.f14 = some m14 := by kernel_rfl
theorem c18 : cFunc Tryd.prog Tryd.f18 = some m18 := by kernel_rfl
theorem c21 : cFunc Tryd.prog Tryd.f21 = some m21 := by kernel_rfl
theorem c32 : cFunc Tryd.prog Tryd.f32 = some m32 := by kernel_rfl
theorem c35 : cFunc Tryd.prog Tryd.f35 = some m35 := by kernel_rfl
theorem c39 : cFunc Tryd.prog Tryd.f39 = some m39 := by kernel_rfl
theorem c42 : cFunc Tryd.prog Tryd.f42 = some m42 := by kernel_rfl
theorem c50 : cFunc Tryd.prog Tryd.f50 = some m50 := by kernel_rfl
theorem c53 : cFunc Tryd.prog Tryd.f53 = some m53 := by kernel_rfl
theorem c56 : cFunc Tryd.prog Tryd.f56 = some m56 := by kernel_rfl
theorem c59 : cFunc Tryd.prog Tryd.f59 = some m59 := by kernel_rfl
theorem c64 : cFunc Tryd.prog Tryd.f64 = some m64 := by kernel_rfl
theorem c67 : cFunc Tryd.prog Tryd.f67 = some m67 := by kernel_rfl
theorem c70 : cFunc Tryd.prog Tryd.f70 = some m70 := by kernel_rfl
theorem c73 : cFunc Tryd.prog Tryd.f73 = some m73 := by kernel_rfl
theorem c80 : cFunc Tryd.prog Tryd.f80 = some m80 := by kernel_rfl
theorem c87 : cFunc Tryd.prog Tryd.f87 = some m87 := by kernel_rfl
theorem c90 : cFunc Tryd.prog Tryd.f90 = some m90 := by kernel_rfl
theorem c93 : cFunc Tryd.prog Tryd.f93 = some m93 := by kernel_rfl
theorem c96 : cFunc Tryd.prog Tryd.f96 = some m96 := by kernel_rfl
theorem c99 : cFunc Tryd.prog Tryd.f99 = some m99 := by kernel_rfl
theorem c104 : cFunc Tryd.prog Tryd.f104 = some m104 := by kernel_rfl
theorem c107 : cFunc Tryd.prog Tryd.f107 = some m107 := by kernel_rfl
theorem c119 : cFunc Tryd.prog Tryd.f119 = some m119 := by kernel_rfl
end Go.Ev
