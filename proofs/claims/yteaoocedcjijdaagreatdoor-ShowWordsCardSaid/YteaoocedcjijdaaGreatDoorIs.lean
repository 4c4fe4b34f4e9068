/- errors.Is at nil or a sentinel, and a sentinel: what Go's own text does there. (Turned from the guide's worked text SentryIs.) -/
import Derived.Test.YteaoocedcjijdaaGreatDoorChecked
import Derived.WalkKit
import Derived.LaidEql
import Derived.Stop.Asserts
import Derived.RowKitTokens
set_option linter.all false
set_option linter.unusedVariables false
set_option linter.unusedSimpArgs false
namespace Go.Proofs.YteaoocedcjijdaaGreatDoor
open Go.RowKit Go.Extern.Stop Go.Stop Go.Extern

end Go.Proofs.YteaoocedcjijdaaGreatDoor
