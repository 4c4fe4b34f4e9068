/- Functions of the library whose answer is told by contract. -/
import Derived.Test.YteaoocedcjijdaaGreatDoorEvB
import Derived.Test.YteaoocedcjijdaaGreatDoorPuA
set_option linter.all false
set_option linter.unusedVariables false
set_option linter.unusedSimpArgs false
namespace Go.Ev
def pIs:List AV→AHeap→Option (CRes×AHeap)
 | [.iface t (.ptr b 0),.iface t' (.ptr b' 0)],h=>bif t.beq 218&&t'.beq 218 then
  match h.get b,h.get b' with
  | some ⟨_,.cells .sent _ [.str s]⟩,some ⟨_,.cells .sent _ [.str s']⟩=>bif b.beq b' then some (.ret (.bool true),h) else bif s==s' then none else some (.ret (.bool false),h)
  | _,_=>none
  else none
 | [.nilIface,.iface t (.ptr _ 0)],h=>bif t.beq 218 then some (.ret (.bool false),h) else none
 | _,_=>none
def pIdx:List AV→AHeap→Option (CRes×AHeap)
 | [.str s,.int .u8 c],h=>some (.ret (.int .i64 (findB (UInt8.ofNat c.toNat).toNat s 0)),h)
 | _,_=>none
end Go.Ev
