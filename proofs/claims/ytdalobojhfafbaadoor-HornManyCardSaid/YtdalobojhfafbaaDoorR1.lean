/- The program's facts that each row of this seat takes; a world in which the listed tables lie. -/
import Derived.Test.YtdalobojhfafbaaDoorCards
import Derived.Test.YtdalobojhfafbaaDoorTie
import Derived.Test.YtdalobojhfafbaaDoorR0
import Derived.WalkKit
import Derived.ProofKit
import Derived.OpenShut
import Derived.Deep.DeepHandedRow
import Derived.Lib.LaidTab
set_option maxRecDepth 100000
set_option linter.unusedVariables false
namespace Go.Proofs.YtdalobojhfafbaaDoor
open Go Go.V Go.ChangeShapes Go.WideShapes Go.ChangeAt Go.RowKit
theorem own : ownKnob Tryd.prog.godebug = none := by kernel_rfl
theorem laidOut : laidOutB Tryd.prog = true := by kernel_rfl
theorem uBool : Tryd.prog.underlying 4 = some .bool := by kernel_rfl
theorem uInt : Tryd.prog.underlying 3 = some (.int .i64) := by kernel_rfl
theorem uInt64 : Tryd.prog.underlying 2 = some (.int .i64) := by kernel_rfl
theorem uString : Tryd.prog.underlying 9 = some .string := by kernel_rfl
theorem uTerms : Tryd.prog.underlying 25 = some (.slice 27) := by kernel_rfl
theorem uTerm : ∃ fs, Tryd.prog.underlying 27 = some (.struct fs) ∧ fieldsAre fs [(3, 0), (9, 1), (2, 2), (25, 3)] := ⟨_, Tryd.underlying27, by unfold fieldsAre; kernel_rfl⟩
theorem cellsTerm : Tryd.prog.cellsOf 27 = 4 := by kernel_rfl
theorem cellsInt : Tryd.prog.cellsOf 3 = 1 := by kernel_rfl
theorem cellsInt64 : Tryd.prog.cellsOf 2 = 1 := by kernel_rfl
theorem cellsString : Tryd.prog.cellsOf 9 = 1 := by kernel_rfl
theorem cellsBool : Tryd.prog.cellsOf 4 = 1 := by kernel_rfl
theorem cellsTerms : Tryd.prog.cellsOf 25 = 1 := by kernel_rfl
section
variable {H : Type} {enc : TypeId × Value → H} {W : World}
end
def lay (c : Array Value) : Obj → Obj
  | .cells _ t frozen => .cells c t frozen
  | o => o
/-- the settled world, the listed tables lying where they are -/
noncomputable def laidWorld (os : Os) : World :=
  let w := World.holding Tryd.prog os ⟨#[], #[], []⟩
  { w with heap := (w.heap.modify 2 (lay (#[.int .u8 128, .int .u8 191, .int .u8 160, .int .u8 191, .int .u8 128, .int .u8 159, .int .u8 144, .int .u8 191, .int .u8 128, .int .u8 143, .int .u8 0, .int .u8 0, .int .u8 0, .int .u8 0, .int .u8 0, .int .u8 0, .int .u8 0, .int .u8 0, .int .u8 0, .int .u8 0, .int .u8 0, .int .u8 0, .int .u8 0, .int .u8 0, .int .u8 0, .int .u8 0, .int .u8 0, .int .u8 0, .int .u8 0, .int .u8 0, .int .u8 0, .int .u8 0]))).modify 1 (lay ((Go.Pinned.utf8FirstZ.map fun n : Nat => Value.int .u8 (n : Int)).toArray)) }
end Go.Proofs.YtdalobojhfafbaaDoor
