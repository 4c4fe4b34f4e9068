/- The table of the functions. -/
import Derived.Test.YtccenddkgeglmaaDoorRDA
import Derived.Test.YtccenddkgeglmaaDoorPrims
set_option linter.all false
set_option linter.unusedVariables false
set_option linter.unusedSimpArgs false
namespace Go.Ev
def tbl : Tr MFun := (.node (.node (.node (.node (.node (.node (.node .nil (some m63) .nil) (some m31) .nil) (some m15) (.node (.node .nil (some m79) .nil) (some m47) (.node .nil (some m111) .nil))) none (.node (.node .nil none (.node .nil (some m103) .nil)) (some m23) (.node (.node .nil (some m87) .nil) (some m55) (.node .nil (some m119) .nil)))) none (.node (.node (.node .nil (some m35) .nil) (some m19) (.node (.node .nil (some m83) .nil) (some m51) .nil)) none (.node .nil none (.node .nil (some m59) .nil)))) none (.node (.node (.node (.node (.node .nil (some m65) .nil) (some m33) .nil) (some m17) (.node (.node .nil (some m81) .nil) (some m49) (.node .nil (some m113) .nil))) none (.node (.node .nil none (.node .nil (some m105) .nil)) none (.node (.node .nil (some m89) .nil) (some m57) (.node .nil (some m121) .nil)))) none (.node (.node (.node .nil (some m37) (.node .nil (some m101) .nil)) none (.node (.node .nil (some m85) .nil) (some m53) (.node .nil (some m117) .nil))) (some m13) (.node (.node .nil (some m45) .nil) none .nil)))) none (.node (.node (.node (.node (.node (.node .nil (some m64) .nil) (some m32) .nil) none (.node (.node .nil (some m80) .nil) (some m48) (.node .nil (some (.prim pIdx)) .nil))) none (.node (.node .nil none (.node .nil (some m104) .nil)) none (.node (.node .nil (some m88) .nil) (some m56) (.node .nil (some m120) .nil)))) none (.node (.node (.node .nil (some (.prim pIs)) .nil) none (.node (.node .nil (some m84) .nil) (some m52) (.node .nil (some m116) .nil))) none (.node .nil none (.node .nil (some m60) .nil)))) none (.node (.node (.node (.node (.node .nil (some m66) .nil) (some m34) .nil) (some m18) (.node (.node .nil (some m82) .nil) (some m50) .nil)) none (.node (.node .nil none (.node .nil (some m106) .nil)) none (.node (.node .nil (some m90) .nil) (some m58) .nil))) none (.node (.node (.node .nil (some m38) (.node .nil (some m102) .nil)) none (.node (.node .nil (some m86) .nil) (some m54) (.node .nil (some m118) .nil))) (some m14) (.node (.node (.node .nil (some m78) .nil) none .nil) (some m30) .nil)))))
def F (f : Nat) : Option MFun := tbl.get f
theorem F13 : F 13 = some m13 := rfl
theorem F15 : F 15 = some m15 := rfl
theorem F17 : F 17 = some m17 := rfl
theorem F18 : F 18 = some m18 := rfl
theorem F19 : F 19 = some m19 := rfl
theorem F23 : F 23 = some m23 := rfl
theorem F30 : F 30 = some m30 := rfl
theorem F31 : F 31 = some m31 := rfl
theorem F32 : F 32 = some m32 := rfl
theorem F33 : F 33 = some m33 := rfl
theorem F34 : F 34 = some m34 := rfl
theorem F35 : F 35 = some m35 := rfl
theorem F37 : F 37 = some m37 := rfl
theorem F38 : F 38 = some m38 := rfl
theorem F45 : F 45 = some m45 := rfl
theorem F47 : F 47 = some m47 := rfl
theorem F48 : F 48 = some m48 := rfl
theorem F49 : F 49 = some m49 := rfl
theorem F50 : F 50 = some m50 := rfl
theorem F51 : F 51 = some m51 := rfl
theorem F52 : F 52 = some m52 := rfl
theorem F53 : F 53 = some m53 := rfl
theorem F54 : F 54 = some m54 := rfl
theorem F55 : F 55 = some m55 := rfl
theorem F56 : F 56 = some m56 := rfl
theorem F57 : F 57 = some m57 := rfl
theorem F58 : F 58 = some m58 := rfl
theorem F59 : F 59 = some m59 := rfl
theorem F60 : F 60 = some m60 := rfl
theorem F63 : F 63 = some m63 := rfl
theorem F64 : F 64 = some m64 := rfl
theorem F65 : F 65 = some m65 := rfl
theorem F66 : F 66 = some m66 := rfl
theorem F78 : F 78 = some m78 := rfl
theorem F79 : F 79 = some m79 := rfl
theorem F80 : F 80 = some m80 := rfl
theorem F81 : F 81 = some m81 := rfl
theorem F82 : F 82 = some m82 := rfl
theorem F83 : F 83 = some m83 := rfl
theorem F84 : F 84 = some m84 := rfl
theorem F85 : F 85 = some m85 := rfl
theorem F86 : F 86 = some m86 := rfl
theorem F87 : F 87 = some m87 := rfl
theorem F88 : F 88 = some m88 := rfl
theorem F89 : F 89 = some m89 := rfl
theorem F90 : F 90 = some m90 := rfl
theorem F101 : F 101 = some m101 := rfl
theorem F102 : F 102 = some m102 := rfl
theorem F103 : F 103 = some m103 := rfl
theorem F104 : F 104 = some m104 := rfl
theorem F105 : F 105 = some m105 := rfl
theorem F106 : F 106 = some m106 := rfl
theorem F111 : F 111 = some m111 := rfl
theorem F113 : F 113 = some m113 := rfl
theorem F116 : F 116 = some m116 := rfl
theorem F117 : F 117 = some m117 := rfl
theorem F118 : F 118 = some m118 := rfl
theorem F119 : F 119 = some m119 := rfl
theorem F120 : F 120 = some m120 := rfl
theorem F121 : F 121 = some m121 := rfl
theorem F36 : F 36 = some (.prim pIs) := rfl
theorem F112 : F 112 = some (.prim pIdx) := rfl
end Go.Ev
