/- The table of the functions. -/
import Derived.Test.YtafbchppfbonpaaGreatDoorZDA
import Derived.Test.YtafbchppfbonpaaGreatDoorPrims
set_option linter.all false
set_option linter.unusedVariables false
set_option linter.unusedSimpArgs false
namespace Go.Ev
def tbl:Tr MFun:=(.node (.node (.node (.node (.node (.node (.node .nil (some m63) .nil) (some m31) .nil) (some m15) (.node (.node .nil (some m79) .nil) (some m47) .nil)) (some m7) (.node (.node (.node .nil (some m71) .nil) (some m39) .nil) (some m23) (.node (.node .nil (some m87) .nil) (some m55) .nil))) (some m3) (.node (.node (.node (.node .nil (some m67) .nil) (some m35) .nil) (some m19) (.node (.node .nil (some m83) .nil) (some m51) .nil)) (some m11) (.node (.node (.node .nil (some m75) .nil) (some m43) .nil) (some m27) (.node .nil (some m59) .nil)))) none (.node (.node (.node (.node (.node .nil (some m65) .nil) (some m33) .nil) (some m17) (.node (.node .nil (some m81) .nil) (some m49) .nil)) (some m9) (.node (.node (.node .nil (some m73) .nil) (some m41) .nil) (some m25) (.node (.node .nil (some (.prim pIdx)) .nil) (some m57) .nil))) (some m5) (.node (.node (.node (.node .nil (some m69) .nil) none .nil) (some m21) (.node (.node .nil (some m85) .nil) (some m53) .nil)) (some m13) (.node (.node (.node .nil (some m77) .nil) (some m45) .nil) (some m29) (.node .nil (some m61) .nil))))) none (.node (.node (.node (.node (.node (.node .nil (some m64) .nil) (some m32) .nil) (some m16) (.node (.node .nil (some m80) .nil) (some m48) .nil)) (some m8) (.node (.node (.node .nil (some m72) .nil) (some m40) .nil) (some m24) (.node (.node .nil (some m88) .nil) (some m56) .nil))) (some m4) (.node (.node (.node (.node .nil (some m68) .nil) (some m36) .nil) (some m20) (.node (.node .nil (some m84) .nil) (some m52) .nil)) (some m12) (.node (.node (.node .nil (some m76) .nil) (some m44) .nil) (some m28) (.node .nil (some m60) .nil)))) none (.node (.node (.node (.node (.node .nil (some m66) .nil) (some m34) .nil) (some (.prim pIs)) (.node (.node .nil (some m82) .nil) (some m50) .nil)) (some m10) (.node (.node (.node .nil (some m74) .nil) (some m42) .nil) (some m26) (.node (.node .nil (some m90) .nil) (some m58) .nil))) (some m6) (.node (.node (.node (.node .nil (some m70) .nil) none .nil) (some m22) (.node (.node .nil (some m86) .nil) (some m54) .nil)) (some m14) (.node (.node (.node .nil (some m78) .nil) (some m46) .nil) (some m30) (.node .nil (some m62) .nil))))))
def F (f:Nat):Option MFun:=tbl.get f
theorem F3:F 3=some m3:=rfl
theorem F4:F 4=some m4:=rfl
theorem F5:F 5=some m5:=rfl
theorem F6:F 6=some m6:=rfl
theorem F7:F 7=some m7:=rfl
theorem F8:F 8=some m8:=rfl
theorem F9:F 9=some m9:=rfl
theorem F10:F 10=some m10:=rfl
theorem F11:F 11=some m11:=rfl
theorem F12:F 12=some m12:=rfl
theorem F13:F 13=some m13:=rfl
theorem F14:F 14=some m14:=rfl
theorem F15:F 15=some m15:=rfl
theorem F16:F 16=some m16:=rfl
theorem F17:F 17=some m17:=rfl
theorem F19:F 19=some m19:=rfl
theorem F20:F 20=some m20:=rfl
theorem F21:F 21=some m21:=rfl
theorem F22:F 22=some m22:=rfl
theorem F23:F 23=some m23:=rfl
theorem F24:F 24=some m24:=rfl
theorem F25:F 25=some m25:=rfl
theorem F26:F 26=some m26:=rfl
theorem F27:F 27=some m27:=rfl
theorem F28:F 28=some m28:=rfl
theorem F29:F 29=some m29:=rfl
theorem F30:F 30=some m30:=rfl
theorem F31:F 31=some m31:=rfl
theorem F32:F 32=some m32:=rfl
theorem F33:F 33=some m33:=rfl
theorem F34:F 34=some m34:=rfl
theorem F35:F 35=some m35:=rfl
theorem F36:F 36=some m36:=rfl
theorem F39:F 39=some m39:=rfl
theorem F40:F 40=some m40:=rfl
theorem F41:F 41=some m41:=rfl
theorem F42:F 42=some m42:=rfl
theorem F43:F 43=some m43:=rfl
theorem F44:F 44=some m44:=rfl
theorem F45:F 45=some m45:=rfl
theorem F46:F 46=some m46:=rfl
theorem F47:F 47=some m47:=rfl
theorem F48:F 48=some m48:=rfl
theorem F49:F 49=some m49:=rfl
theorem F50:F 50=some m50:=rfl
theorem F51:F 51=some m51:=rfl
theorem F52:F 52=some m52:=rfl
theorem F53:F 53=some m53:=rfl
theorem F54:F 54=some m54:=rfl
theorem F55:F 55=some m55:=rfl
theorem F56:F 56=some m56:=rfl
theorem F57:F 57=some m57:=rfl
theorem F58:F 58=some m58:=rfl
theorem F59:F 59=some m59:=rfl
theorem F60:F 60=some m60:=rfl
theorem F61:F 61=some m61:=rfl
theorem F62:F 62=some m62:=rfl
theorem F63:F 63=some m63:=rfl
theorem F64:F 64=some m64:=rfl
theorem F65:F 65=some m65:=rfl
theorem F66:F 66=some m66:=rfl
theorem F67:F 67=some m67:=rfl
theorem F68:F 68=some m68:=rfl
theorem F69:F 69=some m69:=rfl
theorem F70:F 70=some m70:=rfl
theorem F71:F 71=some m71:=rfl
theorem F72:F 72=some m72:=rfl
theorem F73:F 73=some m73:=rfl
theorem F74:F 74=some m74:=rfl
theorem F75:F 75=some m75:=rfl
theorem F76:F 76=some m76:=rfl
theorem F77:F 77=some m77:=rfl
theorem F78:F 78=some m78:=rfl
theorem F79:F 79=some m79:=rfl
theorem F80:F 80=some m80:=rfl
theorem F81:F 81=some m81:=rfl
theorem F82:F 82=some m82:=rfl
theorem F83:F 83=some m83:=rfl
theorem F84:F 84=some m84:=rfl
theorem F85:F 85=some m85:=rfl
theorem F86:F 86=some m86:=rfl
theorem F87:F 87=some m87:=rfl
theorem F88:F 88=some m88:=rfl
theorem F90:F 90=some m90:=rfl
theorem F18:F 18=some (.prim pIs):=rfl
theorem F89:F 89=some (.prim pIdx):=rfl
end Go.Ev
