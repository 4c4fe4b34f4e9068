/- The table's functions are the program's, as the evaluator reads it: printed by program. -/
import Derived.Test.YtccenddkgeglmaaDoorSDT
import Derived.Test.YtccenddkgeglmaaDoorProg
import Derived.KernelRfl
set_option linter.all false
set_option linter.unusedVariables false
set_option linter.unusedSimpArgs false
namespace Go.Ev
open Go Go.Proofs
theorem c15 : cFunc Tryd.prog Tryd.f15 = some m15 := by kernel_rfl
theorem c19 : cFunc Tryd.prog Tryd.f19 = some m19 := by kernel_rfl
theorem c25 : cFunc Tryd.prog Tryd.f25 = some m25 := by kernel_rfl
theorem c28 : cFunc Tryd.prog Tryd.f28 = some m28 := by kernel_rfl
theorem c33 : cFunc Tryd.prog Tryd.f33 = some m33 := by kernel_rfl
theorem c37 : cFunc Tryd.prog Tryd.f37 = some m37 := by kernel_rfl
theorem c46 : cFunc Tryd.prog Tryd.f46 = some m46 := by kernel_rfl
theorem c51 : cFunc Tryd.prog Tryd.f51 = some m51 := by kernel_rfl
theorem c54 : cFunc Tryd.prog Tryd.f54 = some m54 := by kernel_rfl
theorem c57 : cFunc Tryd.prog Tryd.f57 = some m57 := by kernel_rfl
theorem c60 : cFunc Tryd.prog Tryd.f60 = some m60 := by kernel_rfl
theorem c65 : cFunc Tryd.prog Tryd.f65 = some m65 := by kernel_rfl
theorem c79 : cFunc Tryd.prog Tryd.f79 = some m79 := by kernel_rfl
theorem c86 : cFunc Tryd.prog Tryd.f86 = some m86 := by kernel_rfl
theorem c89 : cFunc Tryd.prog Tryd.f89 = some m89 := by kernel_rfl
theorem c102 : cFunc Tryd.prog Tryd.f102 = some m102 := by kernel_rfl
theorem c106 : cFunc Tryd.prog Tryd.f106 = some m106 := by kernel_rfl
theorem c120 : cFunc Tryd.prog Tryd.f120 = some m120 := by kernel_rfl
end Go.Ev
