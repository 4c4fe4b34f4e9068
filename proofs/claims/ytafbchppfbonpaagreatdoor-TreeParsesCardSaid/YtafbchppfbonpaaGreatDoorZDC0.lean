/- The table's functions are the program's, as the evaluator reads it: printed by program. -/
import Derived.Test.YtafbchppfbonpaaGreatDoorZDT
import Derived.Test.YtafbchppfbonpaaGreatDoorProg
import Derived.KernelRfl
set_option linter.all false
set_option linter.unusedVariables false
set_option linter.unusedSimpArgs false
namespace Go.Ev
open Go Go.Proofs
theorem c3:cFunc Tryz.prog Tryz.f3=some m3:=by kernel_rfl
theorem c6:cFunc Tryz.prog Tryz.f6=some m6:=by kernel_rfl
theorem c9:cFunc Tryz.prog Tryz.f9=some m9:=by kernel_rfl
theorem c12:cFunc Tryz.prog Tryz.f12=some m12:=by kernel_rfl
theorem c15:cFunc Tryz.prog Tryz.f15=some m15:=by kernel_rfl
theorem c19:cFunc Tryz.prog Tryz.f19=some m19:=by kernel_rfl
theorem c22:cFunc Tryz.prog Tryz.f22=some m22:=by kernel_rfl
theorem c25:cFunc Tryz.prog Tryz.f25=some m25:=by kernel_rfl
theorem c28:cFunc Tryz.prog Tryz.f28=some m28:=by kernel_rfl
theorem c31:cFunc Tryz.prog Tryz.f31=some m31:=by kernel_rfl
theorem c34:cFunc Tryz.prog Tryz.f34=some m34:=by kernel_rfl
theorem c39:cFunc Tryz.prog Tryz.f39=some m39:=by kernel_rfl
theorem c42:cFunc Tryz.prog Tryz.f42=some m42:=by kernel_rfl
theorem c45:cFunc Tryz.prog Tryz.f45=some m45:=by kernel_rfl
theorem c48:cFunc Tryz.prog Tryz.f48=some m48:=by kernel_rfl
theorem c51:cFunc Tryz.prog Tryz.f51=some m51:=by kernel_rfl
theorem c54:cFunc Tryz.prog Tryz.f54=some m54:=by kernel_rfl
theorem c57:cFunc Tryz.prog Tryz.f57=some m57:=by kernel_rfl
theorem c60:cFunc Tryz.prog Tryz.f60=some m60:=by kernel_rfl
theorem c63:cFunc Tryz.prog Tryz.f63=some m63:=by kernel_rfl
theorem c66:cFunc Tryz.prog Tryz.f66=some m66:=by kernel_rfl
theorem c69:cFunc Tryz.prog Tryz.f69=some m69:=by kernel_rfl
theorem c72:cFunc Tryz.prog Tryz.f72=some m72:=by kernel_rfl
theorem c75:cFunc Tryz.prog Tryz.f75=some m75:=by kernel_rfl
theorem c78:cFunc Tryz.prog Tryz.f78=some m78:=by kernel_rfl
theorem c81:cFunc Tryz.prog Tryz.f81=some m81:=by kernel_rfl
theorem c84:cFunc Tryz.prog Tryz.f84=some m84:=by kernel_rfl
theorem c87:cFunc Tryz.prog Tryz.f87=some m87:=by kernel_rfl
end Go.Ev
