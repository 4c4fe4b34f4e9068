/- The table's functions are the program's, as the evaluator reads it: printed by program. -/
import Derived.Test.YtccenddkgeglmaaDoorRDT
import Derived.Test.YtccenddkgeglmaaDoorProg
import Derived.KernelRfl
set_option linter.all false
set_option linter.unusedVariables false
set_option linter.unusedSimpArgs false
namespace Go.Ev
open Go Go.Proofs
theorem c9 : cFunc Tryd.prog Tryd.f9 = some m9 := by kernel_rfl
theorem c13 : cFunc Tryd.prog Tryd.f13 = some m13 := by kernel_rfl
theorem c17 : cFunc Tryd.prog Tryd.f17 = some m17 := by kernel_rfl
theorem c20 : cFunc Tryd.prog Tryd.f20 = some m20 := by kernel_rfl
theorem c24 : cFunc Tryd.prog Tryd.f24 = some m24 := by kernel_rfl
theorem c27 : cFunc Tryd.prog Tryd.f27 = some m27 := by kernel_rfl
theorem c30 : cFunc Tryd.prog Tryd.f30 = some m30 := by kernel_rfl
theorem c33 : cFunc Tryd.prog Tryd.f33 = some m33 := by kernel_rfl
theorem c37 : cFunc Tryd.prog Tryd.f37 = some m37 := by kernel_rfl
theorem c40 : cFunc Tryd.prog Tryd.f40 = some m40 := by kernel_rfl
theorem c45 : cFunc Tryd.prog Tryd.f45 = some m45 := by kernel_rfl
theorem c48 : cFunc Tryd.prog Tryd.f48 = some m48 := by kernel_rfl
theorem c51 : cFunc Tryd.prog Tryd.f51 = some m51 := by kernel_rfl
theorem c54 : cFunc Tryd.prog Tryd.f54 = some m54 := by kernel_rfl
theorem c57 : cFunc Tryd.prog Tryd.f57 = some m57 := by kernel_rfl
theorem c60 : cFunc Tryd.prog Tryd.f60 = some m60 := by kernel_rfl
theorem c65 : cFunc Tryd.prog Tryd.f65 = some m65 := by kernel_rfl
theorem c68 : cFunc Tryd.prog Tryd.f68 = some m68 := by kernel_rfl
theorem c71 : cFunc Tryd.prog Tryd.f71 = some m71 := by kernel_rfl
theorem c78 : cFunc Tryd.prog Tryd.f78 = some m78 := by kernel_rfl
theorem c81 : cFunc Tryd.prog Tryd.f81 = some m81 := by kernel_rfl
theorem c84 : cFunc Tryd.prog Tryd.f84 = some m84 := by kernel_rfl
theorem c87 : cFunc Tryd.prog Tryd.f87 = some m87 := by kernel_rfl
theorem c90 : cFunc Tryd.prog Tryd.f90 = some m90 := by kernel_rfl
theorem c93 : cFunc Tryd.prog Tryd.f93 = some m93 := by kernel_rfl
theorem c96 : cFunc Tryd.prog Tryd.f96 = some m96 := by kernel_rfl
theorem c99 : cFunc Tryd.prog Tryd.f99 = some m99 := by kernel_rfl
theorem c103 : cFunc Tryd.prog Tryd.f103 = some m103 := by kernel_rfl
theorem c106 : cFunc Tryd.prog Tryd.f106 = some m106 := by kernel_rfl
theorem c113 : cFunc Tryd.prog Tryd.f113 = some m113 := by kernel_rfl
theorem c117 : cFunc Tryd.prog Tryd.f117 = some m117 := by kernel_rfl
theorem c120 : cFunc Tryd.prog Tryd.f120 = some m120 := by kernel_rfl
end Go.Ev
