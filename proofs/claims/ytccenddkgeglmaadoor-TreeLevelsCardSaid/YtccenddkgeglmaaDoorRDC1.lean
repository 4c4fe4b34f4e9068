/- The table's functions are the program's, as the evaluator reads it: printed by program. -/
import Derived.Test.YtccenddkgeglmaaDoorRDT
import Derived.Test.YtccenddkgeglmaaDoorProg
import Derived.KernelRfl
set_option linter.all false
set_option linter.unusedVariables false
set_option linter.unusedSimpArgs false
namespace Go.Ev
open Go Go.Proofs
theorem c8 : cFunc Tryd.prog Tryd.f8 = some m8 := by kernel_rfl
theorem c12 : cFunc Tryd.prog Tryd.f12 = some m12 := by kernel_rfl
theorem c15 : cFunc Tryd.prog Tryd.f15 = some m15 := by kernel_rfl
theorem c19 : cFunc Tryd.prog Tryd.f19 = some m19 := by kernel_rfl
theorem c23 : cFunc Tryd.prog Tryd.f23 = some m23 := by kernel_rfl
theorem c26 : cFunc Tryd.prog Tryd.f26 = some m26 := by kernel_rfl
theorem c29 : cFunc Tryd.prog Tryd.f29 = some m29 := by kernel_rfl
theorem c32 : cFunc Tryd.prog Tryd.f32 = some m32 := by kernel_rfl
theorem c35 : cFunc Tryd.prog Tryd.f35 = some m35 := by kernel_rfl
theorem c39 : cFunc Tryd.prog Tryd.f39 = some m39 := by kernel_rfl
theorem c42 : cFunc Tryd.prog Tryd.f42 = some m42 := by kernel_rfl
theorem c47 : cFunc Tryd.prog Tryd.f47 = some m47 := by kernel_rfl
theorem c50 : cFunc Tryd.prog Tryd.f50 = some m50 := by kernel_rfl
theorem c53 : cFunc Tryd.prog Tryd.f53 = some m53 := by kernel_rfl
theorem c56 : cFunc Tryd.prog Tryd.f56 = some m56 := by kernel_rfl
theorem c59 : cFunc Tryd.prog Tryd.f59 = some m59 := by kernel_rfl
theorem c64 : cFunc Tryd.prog Tryd.f64 = some m64 := by kernel_rfl
theorem c67 : cFunc Tryd.prog Tryd.f67 = some m67 := by kernel_rfl
theorem c70 : cFunc Tryd.prog Tryd.f70 = some m70 := by kernel_rfl
theorem c73 : cFunc Tryd.prog Tryd.f73 = some m73 := by kernel_rfl
theorem c80 : cFunc Tryd.prog Tryd.f80 = some m80 := by kernel_rfl
theorem c83 : cFunc Tryd.prog Tryd.f83 = some m83 := by kernel_rfl
theorem c86 : cFunc Tryd.prog Tryd.f86 = some m86 := by kernel_rfl
theorem c89 : cFunc Tryd.prog Tryd.f89 = some m89 := by kernel_rfl
theorem c92 : cFunc Tryd.prog Tryd.f92 = some m92 := by kernel_rfl
theorem c95 : cFunc Tryd.prog Tryd.f95 = some m95 := by kernel_rfl
theorem c98 : cFunc Tryd.prog Tryd.f98 = some m98 := by kernel_rfl
theorem c102 : cFunc Tryd.prog Tryd.f102 = some m102 := by kernel_rfl
theorem c105 : cFunc Tryd.prog Tryd.f105 = some m105 := by kernel_rfl
theorem c111 : cFunc Tryd.prog Tryd.f111 = some m111 := by kernel_rfl
theorem c116 : cFunc Tryd.prog Tryd.f116 = some m116 := by kernel_rfl
theorem c119 : cFunc Tryd.prog Tryd.f119 = some m119 := by kernel_rfl
end Go.Ev
