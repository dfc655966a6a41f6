/- What terms are in a world: the law alone. -/
import Derived.Test.YtdalobojhfafbaaDoorT1
import Derived.Test.YtdalobojhfafbaaDoorT3
set_option linter.unusedVariables false
namespace Go.V
open Go
abbrev v0 (vs : List Vl) : Vl := vs.getD 0 vz
abbrev v1 (vs : List Vl) : Vl := vs.getD 1 vz
structure OkV (w : Wd) (s : Int) (v : Vl) : Prop where
  sort : v.sort = s
  len : v.s.length = if s = 2 then w.nodes.toNat else 0
  nod : s = 3 → 0 ≤ v.n ∧ v.n < w.nodes
  bol : s ≠ 4 → v.b = false
  num : s = 2 ∨ s = 4 → v.n = 0
end Go.V
