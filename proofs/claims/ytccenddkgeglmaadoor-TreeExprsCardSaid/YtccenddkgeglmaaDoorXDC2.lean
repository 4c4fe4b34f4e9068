/- The table's functions are the program's, as the evaluator reads it: printed by program. -/
import Derived.Test.YtccenddkgeglmaaDoorXDT
import Derived.Test.YtccenddkgeglmaaDoorProg
import Derived.KernelRfl
set_option linter.all false
set_option linter.unusedVariables false
set_option linter.unusedSimpArgs false
namespace Go.Ev
open Go Go.Proofs
theorem c15 : cFunc Tryd.prog Tryd.f15 = some m15 := by kernel_rfl
theorem c19 : cFunc Tryd.prog Tryd.f19 = some m19 := by kernel_rfl
theorem c23 : cFunc Tryd.prog Tryd.f23 = some m23 := by kernel_rfl
theorem c33 : cFunc Tryd.prog Tryd.f33 = some m33 := by kernel_rfl
theorem c37 : cFunc Tryd.prog Tryd.f37 = some m37 := by kernel_rfl
theorem c40 : cFunc Tryd.prog Tryd.f40 = some m40 := by kernel_rfl
theorem c45 : cFunc Tryd.prog Tryd.f45 = some m45 := by kernel_rfl
theorem c51 : cFunc Tryd.prog Tryd.f51 = some m51 := by kernel_rfl
theorem c54 : cFunc Tryd.prog Tryd.f54 = some m54 := by kernel_rfl
theorem c57 : cFunc Tryd.prog Tryd.f57 = some m57 := by kernel_rfl
theorem c60 : cFunc Tryd.prog Tryd.f60 = some m60 := by kernel_rfl
theorem c65 : cFunc Tryd.prog Tryd.f65 = some m65 := by kernel_rfl
theorem c68 : cFunc Tryd.prog Tryd.f68 = some m68 := by kernel_rfl
theorem c71 : cFunc Tryd.prog Tryd.f71 = some m71 := by kernel_rfl
theorem c78 : cFunc Tryd.prog Tryd.f78 = some m78 := by kernel_rfl
theorem c85 : cFunc Tryd.prog Tryd.f85 = some m85 := by kernel_rfl
theorem c88 : cFunc Tryd.prog Tryd.f88 = some m88 := by kernel_rfl
theorem c91 : cFunc Tryd.prog Tryd.f91 = some m91 := by kernel_rfl
theorem c94 : cFunc Tryd.prog Tryd.f94 = some m94 := by kernel_rfl
theorem c97 : cFunc Tryd.prog Tryd.f97 = some m97 := by kernel_rfl
theorem c101 : cFunc Tryd.prog Tryd.f101 = some m101 := by kernel_rfl
theorem c105 : cFunc Tryd.prog Tryd.f105 = some m105 := by kernel_rfl
theorem c113 : cFunc Tryd.prog Tryd.f113 = some m113 := by kernel_rfl
theorem c120 : cFunc Tryd.prog Tryd.f120 = some m120 := by kernel_rfl
end Go.Ev
