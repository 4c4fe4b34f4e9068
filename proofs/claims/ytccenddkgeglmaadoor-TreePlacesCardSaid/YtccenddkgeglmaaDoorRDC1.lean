/- The table's functions are the program's, as the evaluator reads it: printed by program. -/
import Derived.Test.YtccenddkgeglmaaDoorRDT
import Derived.Test.YtccenddkgeglmaaDoorProg
import Derived.KernelRfl
set_option linter.all false
set_option linter.unusedVariables false
set_option linter.unusedSimpArgs false
namespace Go.Ev
open Go Go.Proofs
theorem c14 : cFunc Tryd.prog Tryd.f14 = some m14 := by kernel_rfl
theorem c18 : cFunc Tryd.prog Tryd.f18 = some m18 := by kernel_rfl
theorem c30 : cFunc Tryd.prog Tryd.f30 = some m30 := by kernel_rfl
theorem c33 : cFunc Tryd.prog Tryd.f33 = some m33 := by kernel_rfl
theorem c37 : cFunc Tryd.prog Tryd.f37 = some m37 := by kernel_rfl
theorem c47 : cFunc Tryd.prog Tryd.f47 = some m47 := by kernel_rfl
theorem c50 : cFunc Tryd.prog Tryd.f50 = some m50 := by kernel_rfl
theorem c53 : cFunc Tryd.prog Tryd.f53 = some m53 := by kernel_rfl
theorem c56 : cFunc Tryd.prog Tryd.f56 = some m56 := by kernel_rfl
theorem c59 : cFunc Tryd.prog Tryd.f59 = some m59 := by kernel_rfl
theorem c64 : cFunc Tryd.prog Tryd.f64 = some m64 := by kernel_rfl
theorem c78 : cFunc Tryd.prog Tryd.f78 = some m78 := by kernel_rfl
theorem c81 : cFunc Tryd.prog Tryd.f81 = some m81 := by kernel_rfl
theorem c84 : cFunc Tryd.prog Tryd.f84 = some m84 := by kernel_rfl
theorem c87 : cFunc Tryd.prog Tryd.f87 = some m87 := by kernel_rfl
theorem c90 : cFunc Tryd.prog Tryd.f90 = some m90 := by kernel_rfl
theorem c103 : cFunc Tryd.prog Tryd.f103 = some m103 := by kernel_rfl
theorem c106 : cFunc Tryd.prog Tryd.f106 = some m106 := by kernel_rfl
theorem c116 : cFunc Tryd.prog Tryd.f116 = some m116 := by kernel_rfl
theorem c119 : cFunc Tryd.prog Tryd.f119 = some m119 := by kernel_rfl
end Go.Ev
