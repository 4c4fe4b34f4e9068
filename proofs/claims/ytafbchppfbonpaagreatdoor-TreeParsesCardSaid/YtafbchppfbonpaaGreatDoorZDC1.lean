/- The table's functions are the program's, as the evaluator reads it: printed by program. -/
import Derived.Test.YtafbchppfbonpaaGreatDoorZDT
import Derived.Test.YtafbchppfbonpaaGreatDoorProg
import Derived.KernelRfl
set_option linter.all false
set_option linter.unusedVariables false
set_option linter.unusedSimpArgs false
namespace Go.Ev
open Go Go.Proofs
theorem c4:cFunc Tryz.prog Tryz.f4=some m4:=by kernel_rfl
theorem c7:cFunc Tryz.prog Tryz.f7=some m7:=by kernel_rfl
theorem c10:cFunc Tryz.prog Tryz.f10=some m10:=by kernel_rfl
theorem c13:cFunc Tryz.prog Tryz.f13=some m13:=by kernel_rfl
theorem c16:cFunc Tryz.prog Tryz.f16=some m16:=by kernel_rfl
theorem c20:cFunc Tryz.prog Tryz.f20=some m20:=by kernel_rfl
theorem c23:cFunc Tryz.prog Tryz.f23=some m23:=by kernel_rfl
theorem c26:cFunc Tryz.prog Tryz.f26=some m26:=by kernel_rfl
theorem c29:cFunc Tryz.prog Tryz.f29=some m29:=by kernel_rfl
theorem c32:cFunc Tryz.prog Tryz.f32=some m32:=by kernel_rfl
theorem c35:cFunc Tryz.prog Tryz.f35=some m35:=by kernel_rfl
theorem c40:cFunc Tryz.prog Tryz.f40=some m40:=by kernel_rfl
theorem c43:cFunc Tryz.prog Tryz.f43=some m43:=by kernel_rfl
theorem c46:cFunc Tryz.prog Tryz.f46=some m46:=by kernel_rfl
theorem c49:cFunc Tryz.prog Tryz.f49=some m49:=by kernel_rfl
theorem c52:cFunc Tryz.prog Tryz.f52=some m52:=by kernel_rfl
theorem c55:cFunc Tryz.prog Tryz.f55=some m55:=by kernel_rfl
theorem c58:cFunc Tryz.prog Tryz.f58=some m58:=by kernel_rfl
theorem c61:cFunc Tryz.prog Tryz.f61=some m61:=by kernel_rfl
theorem c64:cFunc Tryz.prog Tryz.f64=some m64:=by kernel_rfl
theorem c67:cFunc Tryz.prog Tryz.f67=some m67:=by kernel_rfl
theorem c70:cFunc Tryz.prog Tryz.f70=some m70:=by kernel_rfl
theorem c73:cFunc Tryz.prog Tryz.f73=some m73:=by kernel_rfl
theorem c76:cFunc Tryz.prog Tryz.f76=some m76:=by kernel_rfl
theorem c79:cFunc Tryz.prog Tryz.f79=some m79:=by kernel_rfl
theorem c82:cFunc Tryz.prog Tryz.f82=some m82:=by kernel_rfl
theorem c85:cFunc Tryz.prog Tryz.f85=some m85:=by kernel_rfl
theorem c88:cFunc Tryz.prog Tryz.f88=some m88:=by kernel_rfl
end Go.Ev
