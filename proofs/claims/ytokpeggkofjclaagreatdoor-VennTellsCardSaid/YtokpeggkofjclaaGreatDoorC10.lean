/- Contracts of the document's Norm; the law NormTells. -/
import Derived.Test.YtokpeggkofjclaaGreatDoorC9
import Derived.Test.YtokpeggkofjclaaGreatDoorC7
set_option maxRecDepth 100000
set_option linter.unusedVariables false
namespace Go.Proofs.YtokpeggkofjclaaGreatDoor
open Go Go.V
end Go.Proofs.YtokpeggkofjclaaGreatDoor
