/- Contracts of subst: Free, Fresh; small numbers as texts. -/
import Derived.Test.YtdalobojhfafbaaGreatDoorC24
import Derived.Test.YtdalobojhfafbaaGreatDoorC14
import Derived.Test.YtdalobojhfafbaaGreatDoorC4
import Derived.Test.YtdalobojhfafbaaGreatDoorM13
set_option maxRecDepth 100000
set_option linter.unusedVariables false
namespace Go.V
open Go
def idxQ {α : Type} (f : α → Bool) : List α → Nat → Int
  | [], _ => -1
  | x :: r, i => if f x then i else idxQ f r (i + 1)
theorem idxQ_any {α : Type} (f : α → Bool) : ∀ (l : List α) (i : Nat), decide (idxQ f l i ≥ 0) = l.any f
  | [], _ => rfl
  | x :: r, i => by
    rw [idxQ, List.any_cons]
    cases h : f x
    · exact idxQ_any f r (i + 1)
    · simp
section
variable {k : D → Prop}
variable {L : List Bx} {kl : D → List Bx → Prop} {e : Nat}
end
end Go.V
namespace Go.Proofs.YtdalobojhfafbaaGreatDoor
open Go Go.V
end Go.Proofs.YtdalobojhfafbaaGreatDoor
