/- The table's functions are the program's, as the evaluator reads it: printed by program. -/
import Derived.Test.YtafbchppfbonpaaGreatDoorZDT
import Derived.Test.YtafbchppfbonpaaGreatDoorProg
import Derived.KernelRfl
set_option linter.all false
set_option linter.unusedVariables false
set_option linter.unusedSimpArgs false
namespace Go.Ev
open Go Go.Proofs
theorem c5:cFunc Tryz.prog Tryz.f5=some m5:=by kernel_rfl
theorem c8:cFunc Tryz.prog Tryz.f8=some m8:=by kernel_rfl
theorem c11:cFunc Tryz.prog Tryz.f11=some m11:=by kernel_rfl
theorem c14:cFunc Tryz.prog Tryz.f14=some m14:=by kernel_rfl
theorem c17:cFunc Tryz.prog Tryz.f17=some m17:=by kernel_rfl
theorem c21:cFunc Tryz.prog Tryz.f21=some m21:=by kernel_rfl
theorem c24:cFunc Tryz.prog Tryz.f24=some m24:=by kernel_rfl
theorem c27:cFunc Tryz.prog Tryz.f27=some m27:=by kernel_rfl
theorem c30:cFunc Tryz.prog Tryz.f30=some m30:=by kernel_rfl
theorem c33:cFunc Tryz.prog Tryz.f33=some m33:=by kernel_rfl
theorem c36:cFunc Tryz.prog Tryz.f36=some m36:=by kernel_rfl
theorem c41:cFunc Tryz.prog Tryz.f41=some m41:=by kernel_rfl
theorem c44:cFunc Tryz.prog Tryz.f44=some m44:=by kernel_rfl
theorem c47:cFunc Tryz.prog Tryz.f47=some m47:=by kernel_rfl
theorem c50:cFunc Tryz.prog Tryz.f50=some m50:=by kernel_rfl
theorem c53:cFunc Tryz.prog Tryz.f53=some m53:=by kernel_rfl
theorem c56:cFunc Tryz.prog Tryz.f56=some m56:=by kernel_rfl
theorem c59:cFunc Tryz.prog Tryz.f59=some m59:=by kernel_rfl
theorem c62:cFunc Tryz.prog Tryz.f62=some m62:=by kernel_rfl
theorem c65:cFunc Tryz.prog Tryz.f65=some m65:=by kernel_rfl
theorem c68:cFunc Tryz.prog Tryz.f68=some m68:=by kernel_rfl
theorem c71:cFunc Tryz.prog Tryz.f71=some m71:=by kernel_rfl
theorem c74:cFunc Tryz.prog Tryz.f74=some m74:=by kernel_rfl
theorem c77:cFunc Tryz.prog Tryz.f77=some m77:=by kernel_rfl
theorem c80:cFunc Tryz.prog Tryz.f80=some m80:=by kernel_rfl
theorem c83:cFunc Tryz.prog Tryz.f83=some m83:=by kernel_rfl
theorem c86:cFunc Tryz.prog Tryz.f86=some m86:=by kernel_rfl
theorem c90:cFunc Tryz.prog Tryz.f90=some m90:=by kernel_rfl
end Go.Ev
