/- What terms are in a world. -/
import Derived.Test.YtokpeggkofjclaaGreatDoorE1
import Derived.Test.YtokpeggkofjclaaGreatDoorC4
set_option maxRecDepth 100000
set_option linter.unusedVariables false
namespace Go.Proofs.YtokpeggkofjclaaGreatDoor
open Go Go.V
section
variable {b b' : Nat} (i : Nat) (s t : List Bool) (hs : i < s.length) (ht : i < t.length)
include hs ht
end
theorem smallW_of {w : Wd} (h : rightW w = true) : smallW w := by
  obtain ⟨h1, h2, _, h4⟩ := rightW_spec h
  intro x hx
  have := (isF_ok h1 (rightLW_mem h4 x hx).2).1.len
  split at this <;> omega
section
variable {w : Wd} {x y : Tm} {r r' : Except Int Vl}
def both (r r' : Except Int Vl) : Except Int (Vl × Vl) := match r with | .error e => .error e | .ok v => match r' with | .error e => .error e | .ok u => .ok (v, u)
end
section
variable {w : Wd} {t : Tm}
end
end Go.Proofs.YtokpeggkofjclaaGreatDoor
/- Eval: what a term is in a world. -/
set_option maxRecDepth 100000
set_option linter.unusedVariables false
namespace Go.V
end Go.V
namespace Go.Proofs.YtokpeggkofjclaaGreatDoor
open Go Go.V
end Go.Proofs.YtokpeggkofjclaaGreatDoor
