/- The table of the functions. -/
import Derived.Test.YtjfagfoekpnofaaDoorPDA
import Derived.Test.YtjfagfoekpnofaaDoorPrims
set_option linter.all false
set_option linter.unusedVariables false
set_option linter.unusedSimpArgs false
namespace Go.Ev
def tbl : Tr MFun := (.node (.node (.node (.node (.node .nil (some m15) (.node .nil (some m47) .nil)) (some m7) (.node (.node .nil (some m39) .nil) (some m23) .nil)) (some m3) (.node (.node (.node .nil (some m35) .nil) (some m19) .nil) (some m11) (.node (.node .nil (some m43) .nil) (some m27) .nil))) none (.node (.node (.node (.node .nil (some m33) .nil) (some m17) (.node .nil (some m49) .nil)) (some m9) (.node (.node .nil (some m41) .nil) (some m25) .nil)) (some m5) (.node (.node (.node .nil (some m37) .nil) (some m21) .nil) (some m13) (.node (.node .nil (some m45) .nil) (some m29) .nil)))) none (.node (.node (.node (.node .nil (some m16) (.node .nil (some m48) .nil)) (some m8) (.node (.node .nil (some m40) .nil) (some m24) .nil)) (some m4) (.node (.node (.node .nil (some m36) .nil) (some m20) .nil) (some m12) (.node (.node .nil (some m44) .nil) (some m28) .nil))) none (.node (.node (.node (.node .nil (some m34) .nil) (some m18) (.node .nil (some m50) .nil)) (some m10) (.node (.node .nil (some m42) .nil) (some m26) .nil)) (some m6) (.node (.node (.node .nil (some m38) .nil) (some (.prim pIs)) .nil) (some m14) (.node (.node .nil (some m46) .nil) (some m30) .nil)))))
def F (f : Nat) : Option MFun := tbl.get f
theorem F3 : F 3 = some m3 := rfl
theorem F6 : F 6 = some m6 := rfl
theorem F7 : F 7 = some m7 := rfl
theorem F8 : F 8 = some m8 := rfl
theorem F9 : F 9 = some m9 := rfl
theorem F10 : F 10 = some m10 := rfl
theorem F11 : F 11 = some m11 := rfl
theorem F13 : F 13 = some m13 := rfl
theorem F14 : F 14 = some m14 := rfl
theorem F15 : F 15 = some m15 := rfl
theorem F16 : F 16 = some m16 := rfl
theorem F17 : F 17 = some m17 := rfl
theorem F18 : F 18 = some m18 := rfl
theorem F19 : F 19 = some m19 := rfl
theorem F20 : F 20 = some m20 := rfl
theorem F21 : F 21 = some m21 := rfl
theorem F23 : F 23 = some m23 := rfl
theorem F24 : F 24 = some m24 := rfl
theorem F25 : F 25 = some m25 := rfl
theorem F26 : F 26 = some m26 := rfl
theorem F27 : F 27 = some m27 := rfl
theorem F28 : F 28 = some m28 := rfl
theorem F29 : F 29 = some m29 := rfl
theorem F30 : F 30 = some m30 := rfl
theorem F33 : F 33 = some m33 := rfl
theorem F34 : F 34 = some m34 := rfl
theorem F35 : F 35 = some m35 := rfl
theorem F36 : F 36 = some m36 := rfl
theorem F37 : F 37 = some m37 := rfl
theorem F38 : F 38 = some m38 := rfl
theorem F39 : F 39 = some m39 := rfl
theorem F40 : F 40 = some m40 := rfl
theorem F41 : F 41 = some m41 := rfl
theorem F42 : F 42 = some m42 := rfl
theorem F43 : F 43 = some m43 := rfl
theorem F44 : F 44 = some m44 := rfl
theorem F45 : F 45 = some m45 := rfl
theorem F46 : F 46 = some m46 := rfl
theorem F47 : F 47 = some m47 := rfl
theorem F48 : F 48 = some m48 := rfl
theorem F49 : F 49 = some m49 := rfl
theorem F50 : F 50 = some m50 := rfl
theorem F22 : F 22 = some (.prim pIs) := rfl
end Go.Ev
