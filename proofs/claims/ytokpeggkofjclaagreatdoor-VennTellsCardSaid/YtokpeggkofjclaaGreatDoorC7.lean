/- Contracts of norm. -/
import Derived.Test.YtokpeggkofjclaaGreatDoorC4
import Derived.Test.YtokpeggkofjclaaGreatDoorT1
set_option maxRecDepth 100000
set_option linter.unusedVariables false
namespace Go.Proofs.YtokpeggkofjclaaGreatDoor
open Go Go.V
end Go.Proofs.YtokpeggkofjclaaGreatDoor
/- Contracts: Norm, Is, and the laws NormAgain, NormTurned. -/
set_option maxRecDepth 100000
set_option linter.unusedVariables false
namespace Go.Proofs.YtokpeggkofjclaaGreatDoor
open Go Go.V
end Go.Proofs.YtokpeggkofjclaaGreatDoor
/- Contracts: the laws NormAgain and NormTurned. -/
set_option maxRecDepth 100000
set_option linter.unusedVariables false
namespace Go.Proofs.YtokpeggkofjclaaGreatDoor
open Go Go.V
end Go.Proofs.YtokpeggkofjclaaGreatDoor
