/- Contracts of subst: what is put, and counted; the loop over slices.Backward. -/
import Derived.Test.YtdalobojhfafbaaGreatDoorM13
import Derived.Test.YtdalobojhfafbaaGreatDoorW10
import Derived.Test.YtdalobojhfafbaaGreatDoorT3
import Derived.Test.YtdalobojhfafbaaGreatDoorC4
set_option maxRecDepth 100000
set_option linter.unusedVariables false
namespace Go.V
open Go
end Go.V
namespace Go.Proofs.YtdalobojhfafbaaGreatDoor
open Go Go.V
end Go.Proofs.YtdalobojhfafbaaGreatDoor
/- The contract of subst.Put. -/
set_option maxRecDepth 100000
set_option linter.unusedVariables false
namespace Go.V
open Go
end Go.V
namespace Go.Proofs.YtdalobojhfafbaaGreatDoor
open Go Go.V
end Go.Proofs.YtdalobojhfafbaaGreatDoor
