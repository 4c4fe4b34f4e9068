/- The table of the functions. -/
import Derived.Test.YtccenddkgeglmaaDoorTDA
import Derived.Test.YtccenddkgeglmaaDoorPrims
set_option linter.all false
set_option linter.unusedVariables false
set_option linter.unusedSimpArgs false
namespace Go.Ev
def tbl : Tr MFun := (.node (.node (.node (.node (.node .nil (some m15) .nil) none (.node .nil (some m23) (.node (.node .nil (some m87) .nil) (some m55) .nil))) (some m3) (.node (.node (.node .nil (some m35) .nil) none (.node .nil (some m51) (.node .nil (some m115) .nil))) none (.node (.node (.node .nil (some (.prim pCnt)) .nil) (some m43) .nil) none (.node .nil (some m59) .nil)))) none (.node (.node (.node (.node .nil (some m33) .nil) (some m17) .nil) none (.node (.node .nil none (.node .nil (some m105) .nil)) none (.node (.node .nil (some m89) .nil) (some m57) .nil))) (some m5) (.node (.node .nil none (.node .nil (some m53) .nil)) none (.node (.node (.node .nil (some m77) .nil) (some m45) (.node .nil (some m109) .nil)) none .nil)))) none (.node (.node (.node (.node (.node .nil (some m32) .nil) (some m16) (.node .nil none (.node .nil (some (.prim pIdx)) .nil))) none (.node .nil (some m24) (.node (.node .nil (some m88) .nil) (some m56) .nil))) (some m4) (.node (.node (.node .nil (some (.prim pIs)) (.node .nil (some m100) .nil)) none (.node .nil (some m52) .nil)) none (.node (.node (.node .nil (some m76) .nil) (some m44) .nil) none (.node .nil (some m60) .nil)))) none (.node (.node (.node (.node .nil (some m34) .nil) none (.node .nil (some m50) .nil)) (some m10) (.node .nil none (.node .nil (some m58) .nil))) (some m6) (.node (.node .nil (some m22) (.node (.node .nil (some m86) .nil) (some m54) .nil)) (some m14) (.node (.node (.node .nil (some m78) .nil) none (.node .nil (some m110) .nil)) none .nil)))))
def F (f : Nat) : Option MFun := tbl.get f
theorem F3 : F 3 = some m3 := rfl
theorem F4 : F 4 = some m4 := rfl
theorem F5 : F 5 = some m5 := rfl
theorem F6 : F 6 = some m6 := rfl
theorem F10 : F 10 = some m10 := rfl
theorem F14 : F 14 = some m14 := rfl
theorem F15 : F 15 = some m15 := rfl
theorem F16 : F 16 = some m16 := rfl
theorem F17 : F 17 = some m17 := rfl
theorem F22 : F 22 = some m22 := rfl
theorem F23 : F 23 = some m23 := rfl
theorem F24 : F 24 = some m24 := rfl
theorem F32 : F 32 = some m32 := rfl
theorem F33 : F 33 = some m33 := rfl
theorem F34 : F 34 = some m34 := rfl
theorem F35 : F 35 = some m35 := rfl
theorem F43 : F 43 = some m43 := rfl
theorem F44 : F 44 = some m44 := rfl
theorem F45 : F 45 = some m45 := rfl
theorem F50 : F 50 = some m50 := rfl
theorem F51 : F 51 = some m51 := rfl
theorem F52 : F 52 = some m52 := rfl
theorem F53 : F 53 = some m53 := rfl
theorem F54 : F 54 = some m54 := rfl
theorem F55 : F 55 = some m55 := rfl
theorem F56 : F 56 = some m56 := rfl
theorem F57 : F 57 = some m57 := rfl
theorem F58 : F 58 = some m58 := rfl
theorem F59 : F 59 = some m59 := rfl
theorem F60 : F 60 = some m60 := rfl
theorem F76 : F 76 = some m76 := rfl
theorem F77 : F 77 = some m77 := rfl
theorem F78 : F 78 = some m78 := rfl
theorem F86 : F 86 = some m86 := rfl
theorem F87 : F 87 = some m87 := rfl
theorem F88 : F 88 = some m88 := rfl
theorem F89 : F 89 = some m89 := rfl
theorem F100 : F 100 = some m100 := rfl
theorem F105 : F 105 = some m105 := rfl
theorem F109 : F 109 = some m109 := rfl
theorem F110 : F 110 = some m110 := rfl
theorem F115 : F 115 = some m115 := rfl
theorem F36 : F 36 = some (.prim pIs) := rfl
theorem F75 : F 75 = some (.prim pCnt) := rfl
theorem F112 : F 112 = some (.prim pIdx) := rfl
end Go.Ev
