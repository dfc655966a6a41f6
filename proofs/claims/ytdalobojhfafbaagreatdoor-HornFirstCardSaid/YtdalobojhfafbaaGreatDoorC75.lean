/- Contracts of layer 18: what is told, messages that are doubled or lost. -/
import Derived.Test.YtdalobojhfafbaaGreatDoorC72
import Derived.Test.YtdalobojhfafbaaGreatDoorE10
set_option maxRecDepth 100000
set_option linter.unusedVariables false
namespace Go.V
open Go
def smB (bs : Nat) (S : Sm) (pd : D) : Bx := ⟨bs, smC (ownP S.hs S.safe) S.w pd, .box⟩
end Go.V
namespace Go.Proofs.YtdalobojhfafbaaGreatDoor
open Go Go.V
/-- a running protocol, in its blocks -/
def SimR (bs : Nat) (S : Sm) (L : List Bx) : Prop := ∃ pd M, L = smB bs S pd :: M ∧ PdR S.l pd M
/-- how a step ends -/
def StepR (bs : Nat) (S : Sm) (o : Option Sm) (a : AE) (L' : List Bx) : Prop := a = .ret (.b o.isSome) ∧ SimR bs (o.getD S) L'
theorem StepR.ge {g : FuncId} {args : List D} {L : List Bx} {bs : Nat} {S : Sm} {o : Option Sm} (h : ASpec pr g args L fun a L' => ∃ L2 L3, L'.Perm L2 ∧ L3.Sublist L2 ∧ StepR bs S o a L3) : ASpec pr g args L (StepR bs S o) :=
  ASpec.ge h fun a L' ⟨L2, L3, h1, h2, h3⟩ => ⟨a, L3, ⟨by cases a <;> trivial, Gl.trans (Gl.perm h1) (Gl.drop h2)⟩, h3⟩
end Go.Proofs.YtdalobojhfafbaaGreatDoor
/- Contracts of layer 18: a handler is done. -/
set_option maxRecDepth 100000
set_option linter.unusedVariables false
namespace Go.Proofs.YtdalobojhfafbaaGreatDoor
open Go Go.V
section
variable {p : Pr} {n : Int}
end
end Go.Proofs.YtdalobojhfafbaaGreatDoor
/- Contracts of layer 18: Deliver, Timer. -/
set_option maxRecDepth 100000
set_option linter.unusedVariables false
namespace Go.V
open Go
end Go.V
namespace Go.Proofs.YtdalobojhfafbaaGreatDoor
open Go Go.V
section
variable {p : Pr} {n : Int}
end
end Go.Proofs.YtdalobojhfafbaaGreatDoor
