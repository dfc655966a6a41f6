/- What must hold ahead of a call, function by function: printed by a program. -/
import Derived.Test.YtdalobojhfafbaaGreatDoorW6
import Derived.KernelRfl
set_option maxRecDepth 100000
set_option linter.unusedVariables false
namespace Go.Proofs.YtdalobojhfafbaaGreatDoor
open Go Go.V
end Go.Proofs.YtdalobojhfafbaaGreatDoor
