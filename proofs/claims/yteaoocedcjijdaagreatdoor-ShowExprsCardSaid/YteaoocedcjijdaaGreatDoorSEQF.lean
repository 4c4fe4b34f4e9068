/- The table's functions, one by one. -/
import Derived.Test.YteaoocedcjijdaaGreatDoorSEKa
set_option linter.all false
set_option linter.unusedVariables false
set_option linter.unusedSimpArgs false
namespace Go.Ev
open Go
set_option maxRecDepth 100000
theorem F8:F 8=some m8:=FA rfl
theorem F11:F 11=some m11:=FA rfl
theorem F12:F 12=some m12:=FA rfl
theorem F16:F 16=some m16:=FA rfl
theorem F22:F 22=some m22:=FA rfl
theorem F23:F 23=some m23:=FA rfl
theorem F24:F 24=some m24:=FA rfl
theorem F31:F 31=some m31:=FA rfl
theorem F32:F 32=some m32:=FA rfl
theorem F33:F 33=some m33:=FA rfl
theorem F51:F 51=some m51:=FA rfl
theorem F54:F 54=some m54:=FA rfl
theorem F55:F 55=some m55:=FA rfl
theorem F56:F 56=some m56:=FA rfl
theorem F57:F 57=some m57:=FA rfl
theorem F58:F 58=some m58:=FA rfl
theorem F61:F 61=some m61:=FA rfl
theorem F67:F 67=some m67:=FA rfl
theorem F69:F 69=some m69:=FA rfl
theorem F70:F 70=some m70:=FA rfl
theorem F71:F 71=some m71:=FA rfl
theorem F72:F 72=some m72:=FA rfl
theorem F73:F 73=some m73:=FA rfl
theorem F93:F 93=some m93:=FA rfl
theorem F94:F 94=some m94:=FA rfl
theorem F95:F 95=some m95:=FA rfl
theorem F97:F 97=some m97:=FA rfl
theorem F98:F 98=some m98:=FA rfl
theorem F100:F 100=some m100:=FA rfl
theorem F102:F 102=some m102:=FA rfl
theorem F103:F 103=some m103:=FA rfl
theorem F112:F 112=some m112:=FA rfl
theorem F113:F 113=some m113:=FA rfl
theorem F114:F 114=some m114:=FA rfl
theorem F115:F 115=some m115:=FA rfl
theorem F116:F 116=some m116:=FA rfl
theorem F117:F 117=some m117:=FA rfl
theorem F118:F 118=some m118:=FA rfl
theorem F119:F 119=some m119:=FA rfl
theorem F120:F 120=some m120:=FA rfl
theorem F121:F 121=some m121:=FA rfl
theorem F122:F 122=some m122:=FA rfl
theorem F133:F 133=some m133:=FA rfl
theorem F134:F 134=some m134:=FA rfl
theorem F142:F 142=some m142:=FA rfl
theorem F151:F 151=some m151:=FA rfl
theorem F152:F 152=some m152:=FA rfl
theorem F153:F 153=some m153:=FA rfl
theorem F154:F 154=some m154:=FA rfl
theorem F155:F 155=some m155:=FA rfl
theorem F169:F 169=some m169:=FA rfl
theorem F174:F 174=some m174:=FA rfl
theorem F183:F 183=some m183:=FA rfl
theorem F184:F 184=some m184:=FA rfl
theorem F191:F 191=some m191:=FA rfl
theorem F43:F 43=some (.prim pIs):=FA rfl
theorem F99:F 99=some (.prim pIt):=FA rfl
theorem F101:F 101=some (.prim pRe):=FA rfl
theorem F188:F 188=some (.prim pIdx):=FA rfl
end Go.Ev
