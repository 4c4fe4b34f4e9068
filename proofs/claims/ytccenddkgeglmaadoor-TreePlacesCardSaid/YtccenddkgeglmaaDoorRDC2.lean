/- The table's functions are the program's, as the evaluator reads it: printed by program. -/
import Derived.Test.YtccenddkgeglmaaDoorRDT
import Derived.Test.YtccenddkgeglmaaDoorProg
import Derived.KernelRfl
set_option linter.all false
set_option linter.unusedVariables false
set_option linter.unusedSimpArgs false
namespace Go.Ev
open Go Go.Proofs
theorem c15 : cFunc Tryd.prog Tryd.f15 = some m15 := by kernel_rfl
theorem c19 : cFunc Tryd.prog Tryd.f19 = some m19 := by kernel_rfl
theorem c31 : cFunc Tryd.prog Tryd.f31 = some m31 := by kernel_rfl
theorem c34 : cFunc Tryd.prog Tryd.f34 = some m34 := by kernel_rfl
theorem c38 : cFunc Tryd.prog Tryd.f38 = some m38 := by kernel_rfl
theorem c48 : cFunc Tryd.prog Tryd.f48 = some m48 := by kernel_rfl
theorem c51 : cFunc Tryd.prog Tryd.f51 = some m51 := by kernel_rfl
theorem c54 : cFunc Tryd.prog Tryd.f54 = some m54 := by kernel_rfl
theorem c57 : cFunc Tryd.prog Tryd.f57 = some m57 := by kernel_rfl
theorem c60 : cFunc Tryd.prog Tryd.f60 = some m60 := by kernel_rfl
theorem c65 : cFunc Tryd.prog Tryd.f65 = some m65 := by kernel_rfl
theorem c79 : cFunc Tryd.prog Tryd.f79 = some m79 := by kernel_rfl
theorem c82 : cFunc Tryd.prog Tryd.f82 = some m82 := by kernel_rfl
theorem c85 : cFunc Tryd.prog Tryd.f85 = some m85 := by kernel_rfl
theorem c88 : cFunc Tryd.prog Tryd.f88 = some m88 := by kernel_rfl
theorem c101 : cFunc Tryd.prog Tryd.f101 = some m101 := by kernel_rfl
theorem c104 : cFunc Tryd.prog Tryd.f104 = some m104 := by kernel_rfl
theorem c111 : cFunc Tryd.prog Tryd.f111 = some m111 := by kernel_rfl
theorem c117 : cFunc Tryd.prog Tryd.f117 = some m117 := by kernel_rfl
theorem c120 : cFunc Tryd.prog Tryd.f120 = some m120 := by kernel_rfl
end Go.Ev
