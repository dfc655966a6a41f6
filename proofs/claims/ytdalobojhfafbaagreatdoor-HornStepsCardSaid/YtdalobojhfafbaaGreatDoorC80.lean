/- Contracts of layer 18: SimRight. -/
import Derived.Test.YtdalobojhfafbaaGreatDoorC79
set_option maxRecDepth 100000
set_option linter.unusedVariables false
namespace Go.Proofs.YtdalobojhfafbaaGreatDoor
open Go Go.V
section
variable {p : Pr} {n : Int} {bs : Nat} {S : Sm} {L : List Bx} {kp k : D → List Bx → Prop}
theorem world_at (A N : List Bx) (hS : SOk p n S) (hp : PrOk p) (r : SimR bs S L) : AFn pr 20 [.p bs 0] (A ++ (L ++ N)) (.ret S.w.d) :=
  AFn.frameM A (AFn.frameL N (world_abs r [] (smallW_of hS.w.right) (by rw [keys_len hS.w.keys]; have := keyP_len hp; omega)))
end
end Go.Proofs.YtdalobojhfafbaaGreatDoor
