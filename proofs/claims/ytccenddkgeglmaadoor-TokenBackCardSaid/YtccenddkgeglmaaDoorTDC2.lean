/- The table's functions are the program's, as the evaluator reads it: printed by program. -/
import Derived.Test.YtccenddkgeglmaaDoorTDT
import Derived.Test.YtccenddkgeglmaaDoorProg
import Derived.KernelRfl
set_option linter.all false
set_option linter.unusedVariables false
set_option linter.unusedSimpArgs false
namespace Go.Ev
open Go Go.Proofs
theorem c5 : cFunc Tryd.prog Tryd.f5 = some m5 := by kernel_rfl
theorem c14 : cFunc Tryd.prog Tryd.f14 = some m14 := by kernel_rfl
theorem c17 : cFunc Tryd.prog Tryd.f17 = some m17 := by kernel_rfl
theorem c24 : cFunc Tryd.prog Tryd.f24 = some m24 := by kernel_rfl
theorem c34 : cFunc Tryd.prog Tryd.f34 = some m34 := by kernel_rfl
theorem c44 : cFunc Tryd.prog Tryd.f44 = some m44 := by kernel_rfl
theorem c51 : cFunc Tryd.prog Tryd.f51 = some m51 := by kernel_rfl
theorem c54 : cFunc Tryd.prog Tryd.f54 = some m54 := by kernel_rfl
theorem c57 : cFunc Tryd.prog Tryd.f57 = some m57 := by kernel_rfl
theorem c60 : cFunc Tryd.prog Tryd.f60 = some m60 := by kernel_rfl
theorem c78 : cFunc Tryd.prog Tryd.f78 = some m78 := by kernel_rfl
theorem c88 : cFunc Tryd.prog Tryd.f88 = some m88 := by kernel_rfl
theorem c105 : cFunc Tryd.prog Tryd.f105 = some m105 := by kernel_rfl
theorem c115 : cFunc Tryd.prog Tryd.f115 = some m115 := by kernel_rfl
end Go.Ev
