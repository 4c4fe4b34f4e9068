/- The table's functions are the program's, as the evaluator reads it: printed by program. -/
import Derived.Test.YteaoocedcjijdaaGreatDoorWQT
import Derived.Test.YteaoocedcjijdaaGreatDoorProg
import Derived.KernelRfl
set_option linter.all false
set_option linter.unusedVariables false
set_option linter.unusedSimpArgs false
namespace Go.Ev
open Go Go.Proofs
theorem c5 : cFunc Tryz.prog Tryz.f5 = some m5 := by kernel_rfl
theorem c18 : cFunc Tryz.prog Tryz.f18 = some m18 := by kernel_rfl
theorem c20 : cFunc Tryz.prog Tryz.f20 = some m20 := by kernel_rfl
theorem c21 : cFunc Tryz.prog Tryz.f21 = some m21 := by kernel_rfl
theorem c22 : cFunc Tryz.prog Tryz.f22 = some m22 := by kernel_rfl
theorem c24 : cFunc Tryz.prog Tryz.f24 = some m24 := by kernel_rfl
theorem c25 : cFunc Tryz.prog Tryz.f25 = some m25 := by kernel_rfl
theorem c29 : cFunc Tryz.prog Tryz.f29 = some m29 := by kernel_rfl
theorem c33 : cFunc Tryz.prog Tryz.f33 = some m33 := by kernel_rfl
theorem c46 : cFunc Tryz.prog Tryz.f46 = some m46 := by kernel_rfl
theorem c47 : cFunc Tryz.prog Tryz.f47 = some m47 := by kernel_rfl
theorem c48 : cFunc Tryz.prog Tryz.f48 = some m48 := by kernel_rfl
theorem c49 : cFunc Tryz.prog Tryz.f49 = some m49 := by kernel_rfl
theorem c50 : cFunc Tryz.prog Tryz.f50 = some m50 := by kernel_rfl
theorem c51 : cFunc Tryz.prog Tryz.f51 = some m51 := by kernel_rfl
theorem c52 : cFunc Tryz.prog Tryz.f52 = some m52 := by kernel_rfl
theorem c53 : cFunc Tryz.prog Tryz.f53 = some m53 := by kernel_rfl
theorem c54 : cFunc Tryz.prog Tryz.f54 = some m54 := by kernel_rfl
theorem c56 : cFunc Tryz.prog Tryz.f56 = some m56 := by kernel_rfl
theorem c57 : cFunc Tryz.prog Tryz.f57 = some m57 := by kernel_rfl
theorem c58 : cFunc Tryz.prog Tryz.f58 = some m58 := by kernel_rfl
theorem c59 : cFunc Tryz.prog Tryz.f59 = some m59 := by kernel_rfl
theorem c64 : cFunc Tryz.prog Tryz.f64 = some m64 := by kernel_rfl
theorem c70 : cFunc Tryz.prog Tryz.f70 = some m70 := by kernel_rfl
theorem c71 : cFunc Tryz.prog Tryz.f71 = some m71 := by kernel_rfl
theorem c72 : cFunc Tryz.prog Tryz.f72 = some m72 := by kernel_rfl
theorem c73 : cFunc Tryz.prog Tryz.f73 = some m73 := by kernel_rfl
theorem c84 : cFunc Tryz.prog Tryz.f84 = some m84 := by kernel_rfl
theorem c85 : cFunc Tryz.prog Tryz.f85 = some m85 := by kernel_rfl
theorem c86 : cFunc Tryz.prog Tryz.f86 = some m86 := by kernel_rfl
theorem c87 : cFunc Tryz.prog Tryz.f87 = some m87 := by kernel_rfl
theorem c88 : cFunc Tryz.prog Tryz.f88 = some m88 := by kernel_rfl
theorem c89 : cFunc Tryz.prog Tryz.f89 = some m89 := by kernel_rfl
theorem c90 : cFunc Tryz.prog Tryz.f90 = some m90 := by kernel_rfl
theorem c91 : cFunc Tryz.prog Tryz.f91 = some m91 := by kernel_rfl
theorem c92 : cFunc Tryz.prog Tryz.f92 = some m92 := by kernel_rfl
theorem c93 : cFunc Tryz.prog Tryz.f93 = some m93 := by kernel_rfl
theorem c94 : cFunc Tryz.prog Tryz.f94 = some m94 := by kernel_rfl
theorem c95 : cFunc Tryz.prog Tryz.f95 = some m95 := by kernel_rfl
theorem c96 : cFunc Tryz.prog Tryz.f96 = some m96 := by kernel_rfl
theorem c97 : cFunc Tryz.prog Tryz.f97 = some m97 := by kernel_rfl
theorem c98 : cFunc Tryz.prog Tryz.f98 = some m98 := by kernel_rfl
theorem c99 : cFunc Tryz.prog Tryz.f99 = some m99 := by kernel_rfl
theorem c102 : cFunc Tryz.prog Tryz.f102 = some m102 := by kernel_rfl
theorem c103 : cFunc Tryz.prog Tryz.f103 = some m103 := by kernel_rfl
theorem c104 : cFunc Tryz.prog Tryz.f104 = some m104 := by kernel_rfl
theorem c105 : cFunc Tryz.prog Tryz.f105 = some m105 := by kernel_rfl
theorem c107 : cFunc Tryz.prog Tryz.f107 = some m107 := by kernel_rfl
theorem c108 : cFunc Tryz.prog Tryz.f108 = some m108 := by kernel_rfl
theorem c110 : cFunc Tryz.prog Tryz.f110 = some m110 := by kernel_rfl
theorem c112 : cFunc Tryz.prog Tryz.f112 = some m112 := by kernel_rfl
theorem c113 : cFunc Tryz.prog Tryz.f113 = some m113 := by kernel_rfl
theorem c114 : cFunc Tryz.prog Tryz.f114 = some m114 := by kernel_rfl
theorem c115 : cFunc Tryz.prog Tryz.f115 = some m115 := by kernel_rfl
theorem c116 : cFunc Tryz.prog Tryz.f116 = some m116 := by kernel_rfl
theorem c117 : cFunc Tryz.prog Tryz.f117 = some m117 := by kernel_rfl
theorem c118 : cFunc Tryz.prog Tryz.f118 = some m118 := by kernel_rfl
theorem c119 : cFunc Tryz.prog Tryz.f119 = some m119 := by kernel_rfl
theorem c120 : cFunc Tryz.prog Tryz.f120 = some m120 := by kernel_rfl
theorem c121 : cFunc Tryz.prog Tryz.f121 = some m121 := by kernel_rfl
theorem c122 : cFunc Tryz.prog Tryz.f122 = some m122 := by kernel_rfl
theorem c133 : cFunc Tryz.prog Tryz.f133 = some m133 := by kernel_rfl
theorem c134 : cFunc Tryz.prog Tryz.f134 = some m134 := by kernel_rfl
theorem c135 : cFunc Tryz.prog Tryz.f135 = some m135 := by kernel_rfl
theorem c136 : cFunc Tryz.prog Tryz.f136 = some m136 := by kernel_rfl
theorem c137 : cFunc Tryz.prog Tryz.f137 = some m137 := by kernel_rfl
theorem c138 : cFunc Tryz.prog Tryz.f138 = some m138 := by kernel_rfl
theorem c139 : cFunc Tryz.prog Tryz.f139 = some m139 := by kernel_rfl
theorem c140 : cFunc Tryz.prog Tryz.f140 = some m140 := by kernel_rfl
theorem c141 : cFunc Tryz.prog Tryz.f141 = some m141 := by kernel_rfl
theorem c144 : cFunc Tryz.prog Tryz.f144 = some m144 := by kernel_rfl
theorem c146 : cFunc Tryz.prog Tryz.f146 = some m146 := by kernel_rfl
theorem c149 : cFunc Tryz.prog Tryz.f149 = some m149 := by kernel_rfl
theorem c151 : cFunc Tryz.prog Tryz.f151 = some m151 := by kernel_rfl
theorem c152 : cFunc Tryz.prog Tryz.f152 = some m152 := by kernel_rfl
theorem c153 : cFunc Tryz.prog Tryz.f153 = some m153 := by kernel_rfl
theorem c154 : cFunc Tryz.prog Tryz.f154 = some m154 := by kernel_rfl
theorem c155 : cFunc Tryz.prog Tryz.f155 = some m155 := by kernel_rfl
theorem c163 : cFunc Tryz.prog Tryz.f163 = some m163 := by kernel_rfl
theorem c164 : cFunc Tryz.prog Tryz.f164 = some m164 := by kernel_rfl
theorem c165 : cFunc Tryz.prog Tryz.f165 = some m165 := by kernel_rfl
theorem c166 : cFunc Tryz.prog Tryz.f166 = some m166 := by kernel_rfl
theorem c172 : cFunc Tryz.prog Tryz.f172 = some m172 := by kernel_rfl
theorem c173 : cFunc Tryz.prog Tryz.f173 = some m173 := by kernel_rfl
theorem c174 : cFunc Tryz.prog Tryz.f174 = some m174 := by kernel_rfl
theorem c176 : cFunc Tryz.prog Tryz.f176 = some m176 := by kernel_rfl
theorem c177 : cFunc Tryz.prog Tryz.f177 = some m177 := by kernel_rfl
theorem c178 : cFunc Tryz.prog Tryz.f178 = some m178 := by kernel_rfl
theorem c179 : cFunc Tryz.prog Tryz.f179 = some m179 := by kernel_rfl
theorem c187 : cFunc Tryz.prog Tryz.f187 = some m187 := by kernel_rfl
theorem c189 : cFunc Tryz.prog Tryz.f189 = some m189 := by kernel_rfl
theorem c192 : cFunc Tryz.prog Tryz.f192 = some m192 := by kernel_rfl
theorem c193 : cFunc Tryz.prog Tryz.f193 = some m193 := by kernel_rfl
end Go.Ev
