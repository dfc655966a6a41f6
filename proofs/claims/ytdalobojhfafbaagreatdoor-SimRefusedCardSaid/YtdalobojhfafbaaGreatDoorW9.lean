/- What must hold ahead of a call of Put, and in the rounds of its loop: printed by a program. -/
import Derived.Test.YtdalobojhfafbaaGreatDoorW2
import Derived.Test.YtdalobojhfafbaaGreatDoorA11
import Derived.KernelRfl
set_option maxRecDepth 100000
set_option linter.unusedVariables false
namespace Go.Proofs.YtdalobojhfafbaaGreatDoor
open Go Go.V
end Go.Proofs.YtdalobojhfafbaaGreatDoor
