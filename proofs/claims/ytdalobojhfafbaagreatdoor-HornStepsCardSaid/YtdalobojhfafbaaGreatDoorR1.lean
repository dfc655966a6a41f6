/- The program's facts that each row of this seat takes; a world in which the listed tables lie. -/
import Derived.Test.YtdalobojhfafbaaGreatDoorCards
import Derived.Test.YtdalobojhfafbaaGreatDoorTie
import Derived.Test.YtdalobojhfafbaaGreatDoorR0
import Derived.WalkKit
import Derived.ProofKit
import Derived.OpenShut
import Derived.Deep.DeepHandedRow
import Derived.Lib.LaidTab
set_option maxRecDepth 100000
set_option linter.unusedVariables false
namespace Go.Proofs.YtdalobojhfafbaaGreatDoor
open Go Go.V Go.ChangeShapes Go.WideShapes Go.ChangeAt Go.RowKit
theorem own : ownKnob Tryz.prog.godebug = none := by kernel_rfl
theorem laidOut : laidOutB Tryz.prog = true := by kernel_rfl
theorem uBool : Tryz.prog.underlying 4 = some .bool := by kernel_rfl
theorem uInt : Tryz.prog.underlying 3 = some (.int .i64) := by kernel_rfl
theorem uInt64 : Tryz.prog.underlying 2 = some (.int .i64) := by kernel_rfl
theorem uString : Tryz.prog.underlying 9 = some .string := by kernel_rfl
theorem uTerms : Tryz.prog.underlying 25 = some (.slice 27) := by kernel_rfl
theorem uTerm : ∃ fs, Tryz.prog.underlying 27 = some (.struct fs) ∧ fieldsAre fs [(3, 0), (9, 1), (2, 2), (25, 3)] := ⟨_, Tryz.underlying27, by unfold fieldsAre; kernel_rfl⟩
theorem cellsTerm : Tryz.prog.cellsOf 27 = 4 := by kernel_rfl
theorem cellsInt : Tryz.prog.cellsOf 3 = 1 := by kernel_rfl
theorem cellsInt64 : Tryz.prog.cellsOf 2 = 1 := by kernel_rfl
theorem cellsString : Tryz.prog.cellsOf 9 = 1 := by kernel_rfl
theorem cellsBool : Tryz.prog.cellsOf 4 = 1 := by kernel_rfl
theorem cellsTerms : Tryz.prog.cellsOf 25 = 1 := by kernel_rfl
section
variable {H : Type} {enc : TypeId × Value → H} {W : World}
theorem open_tm {base : Nat} {v : Value} {d : DataW H} {p : List MemPlace} (hok : Value.okWide Tryz.prog W .any base 27 v) (h : DataW.Trod enc Tryz.prog W 0 (fun _ => true) true 27 v d p) : ∃ t : Tm, Rep (oldB W) W t.d v := by
  obtain ⟨fs, hT, hf⟩ := uTerm
  unfold Value.okWide at hok
  rw [hT] at hok
  obtain ⟨cs, rfl, _, _⟩ := hok
  obtain ⟨m, h⟩ := h
  obtain ⟨t, ht⟩ := trod_tm hT hf uInt uString uInt64 uTerms cellsTerm cellsInt cellsString cellsInt64 cellsTerms m _ _ h
  refine ⟨t, ?_⟩
  rw [Tm.d, Rep]
  exact ⟨cs.toList, by simp, ht⟩
theorem open_int {base : Nat} {v : Value} {d : DataW H} {p : List MemPlace} (hok : Value.okWide Tryz.prog W .any base 3 v) (h : DataW.Trod enc Tryz.prog W 0 (fun _ => true) true 3 v d p) : ∃ n : Int, Rep (oldB W) W (.i n) v := by
  unfold Value.okWide at hok
  rw [uInt] at hok
  obtain ⟨m, h⟩ := h
  obtain ⟨n, _, _, r⟩ := trod_i uInt h
  refine ⟨n, ?_⟩
  cases v with
  | agg cs =>
    simp [Cell.okWide, Cell.ok] at hok
  | _ =>
    obtain ⟨u, hu, hr⟩ := r.one
    rw [show u = _ from (List.cons.inj hu).1.symm] at hr
    exact hr
end
def lay (c : Array Value) : Obj → Obj
  | .cells _ t frozen => .cells c t frozen
  | o => o
noncomputable def laidWorld (os : Os) : World :=
  let w := World.holding Tryz.prog os ⟨#[], #[], []⟩
  { w with heap := (w.heap.modify 2 (lay (#[.int .u8 128, .int .u8 191, .int .u8 160, .int .u8 191, .int .u8 128, .int .u8 159, .int .u8 144, .int .u8 191, .int .u8 128, .int .u8 143, .int .u8 0, .int .u8 0, .int .u8 0, .int .u8 0, .int .u8 0, .int .u8 0, .int .u8 0, .int .u8 0, .int .u8 0, .int .u8 0, .int .u8 0, .int .u8 0, .int .u8 0, .int .u8 0, .int .u8 0, .int .u8 0, .int .u8 0, .int .u8 0, .int .u8 0, .int .u8 0, .int .u8 0, .int .u8 0]))).modify 1 (lay ((Go.Pinned.utf8FirstZ.map fun n : Nat => Value.int .u8 (n : Int)).toArray)) }
end Go.Proofs.YtdalobojhfafbaaGreatDoor
