/- Sets and bools obey their laws: the law alone. -/
import Derived.Test.YtokpeggkofjclaaGreatDoorM6
import Derived.Test.YtokpeggkofjclaaGreatDoorE3
set_option linter.unusedVariables false
namespace Go.V
open Go
section
variable {w : Wd}
end
end Go.V
