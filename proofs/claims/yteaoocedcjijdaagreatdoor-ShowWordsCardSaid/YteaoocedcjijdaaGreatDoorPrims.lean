/- Functions of the library whose answer is told by contract. -/
import Derived.Test.YteaoocedcjijdaaGreatDoorEvC
import Derived.Test.YteaoocedcjijdaaGreatDoorPuA
set_option linter.all false
set_option linter.unusedVariables false
set_option linter.unusedSimpArgs false
namespace Go.Ev
def pIdx : List AV → AHeap → Option (CRes × AHeap)
  | [.str s, .int .u8 c], h => some (.ret (.int .i64 (findB (UInt8.ofNat c.toNat).toNat s 0)), h)
  | _, _ => none
end Go.Ev
