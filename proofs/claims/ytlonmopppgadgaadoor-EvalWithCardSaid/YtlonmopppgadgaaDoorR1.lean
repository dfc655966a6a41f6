/- The program's facts that each row of this seat takes; a world in which the listed tables lie. -/
import Derived.Test.YtlonmopppgadgaaDoorCards
import Derived.Test.YtlonmopppgadgaaDoorTie
import Derived.Test.YtlonmopppgadgaaDoorR0
import Derived.WalkKit
import Derived.ProofKit
import Derived.OpenShut
import Derived.Deep.DeepHandedRow
import Derived.Lib.LaidTab
set_option maxRecDepth 100000
set_option linter.unusedVariables false
namespace Go.Proofs.YtlonmopppgadgaaDoor
open Go Go.V Go.ChangeShapes Go.WideShapes Go.ChangeAt Go.RowKit
theorem own : ownKnob Tryd.prog.godebug = none := by kernel_rfl
theorem laidOut : laidOutB Tryd.prog = true := by kernel_rfl
theorem uBool : Tryd.prog.underlying 4 = some .bool := by kernel_rfl
theorem uInt : Tryd.prog.underlying 3 = some (.int .i64) := by kernel_rfl
theorem uInt64 : Tryd.prog.underlying 2 = some (.int .i64) := by kernel_rfl
theorem uString : Tryd.prog.underlying 9 = some .string := by kernel_rfl
theorem uTerms : Tryd.prog.underlying 22 = some (.slice 24) := by kernel_rfl
theorem uTerm : ∃ fs, Tryd.prog.underlying 24 = some (.struct fs) ∧ fieldsAre fs [(3, 0), (9, 1), (2, 2), (22, 3)] := ⟨_, Tryd.underlying24, by unfold fieldsAre; kernel_rfl⟩
theorem cellsTerm : Tryd.prog.cellsOf 24 = 4 := by kernel_rfl
theorem cellsInt : Tryd.prog.cellsOf 3 = 1 := by kernel_rfl
theorem cellsInt64 : Tryd.prog.cellsOf 2 = 1 := by kernel_rfl
theorem cellsString : Tryd.prog.cellsOf 9 = 1 := by kernel_rfl
theorem uBools : Tryd.prog.underlying 37 = some (.slice 4) := by kernel_rfl
theorem uNameds : Tryd.prog.underlying 34 = some (.slice 47) := by kernel_rfl
theorem uValue : ∃ fs, Tryd.prog.underlying 39 = some (.struct fs) ∧ fieldsAre fs [(3, 0), (2, 1), (4, 2), (37, 3)] := ⟨_, Tryd.underlying39, by unfold fieldsAre; kernel_rfl⟩
theorem uNamed : ∃ fs, Tryd.prog.underlying 47 = some (.struct fs) ∧ fieldsAre fs [(9, 0), (39, 1)] := ⟨_, Tryd.underlying47, by unfold fieldsAre; kernel_rfl⟩
theorem uWorld : ∃ fs, Tryd.prog.underlying 36 = some (.struct fs) ∧ fieldsAre fs [(3, 0), (34, 1)] := ⟨_, Tryd.underlying36, by unfold fieldsAre; kernel_rfl⟩
theorem cellsBool : Tryd.prog.cellsOf 4 = 1 := by kernel_rfl
theorem cellsBools : Tryd.prog.cellsOf 37 = 1 := by kernel_rfl
theorem cellsNameds : Tryd.prog.cellsOf 34 = 1 := by kernel_rfl
theorem cellsValue : Tryd.prog.cellsOf 39 = 4 := by kernel_rfl
theorem cellsNamed : Tryd.prog.cellsOf 47 = 5 := by kernel_rfl
theorem cellsWorld : Tryd.prog.cellsOf 36 = 2 := by kernel_rfl
theorem cellsTerms : Tryd.prog.cellsOf 22 = 1 := by kernel_rfl
section
variable {H : Type} {enc : TypeId × Value → H} {W : World}
theorem open_tm {base : Nat} {v : Value} {d : DataW H} {p : List MemPlace} (hok : Value.okWide Tryd.prog W .any base 24 v) (h : DataW.Trod enc Tryd.prog W 0 (fun _ => true) true 24 v d p) : ∃ t : Tm, Rep (oldB W) W t.d v := by
  obtain ⟨fs, hT, hf⟩ := uTerm
  unfold Value.okWide at hok
  rw [hT] at hok
  obtain ⟨cs, rfl, _, _⟩ := hok
  obtain ⟨m, h⟩ := h
  obtain ⟨t, ht⟩ := trod_tm hT hf uInt uString uInt64 uTerms cellsTerm cellsInt cellsString cellsInt64 cellsTerms m _ _ h
  refine ⟨t, ?_⟩
  rw [Tm.d, Rep]
  exact ⟨cs.toList, by simp, ht⟩
theorem open_vl {base : Nat} {v : Value} {d : DataW H} {p : List MemPlace} (hok : Value.okWide Tryd.prog W .any base 39 v) (h : DataW.Trod enc Tryd.prog W 0 (fun _ => true) true 39 v d p) : ∃ t : Vl, Rep (oldB W) W t.d v := by
  obtain ⟨fs, hT, hf⟩ := uValue
  unfold Value.okWide at hok
  rw [hT] at hok
  obtain ⟨cs, rfl, _, _⟩ := hok
  obtain ⟨m, h⟩ := h
  obtain ⟨t, ht⟩ := trod_vl hT hf uInt uInt64 uBool uBools cellsValue cellsInt cellsInt64 cellsBool cellsBools h
  refine ⟨t, ?_⟩
  rw [Vl.d, Rep]
  exact ⟨cs.toList, by simp, ht⟩
theorem open_wd {base : Nat} {v : Value} {d : DataW H} {p : List MemPlace} (hok : Value.okWide Tryd.prog W .any base 36 v) (h : DataW.Trod enc Tryd.prog W 0 (fun _ => true) true 36 v d p) : ∃ t : Wd, Rep (oldB W) W t.d v := by
  obtain ⟨fw, hW, hfw⟩ := uWorld
  obtain ⟨fn, hN, hfn⟩ := uNamed
  obtain ⟨fs, hT, hf⟩ := uValue
  unfold Value.okWide at hok
  rw [hW] at hok
  obtain ⟨cs, rfl, _, _⟩ := hok
  obtain ⟨m, h⟩ := h
  obtain ⟨t, ht⟩ := trod_wd hW hfw uNameds hN hfn uString hT hf uInt uInt64 uBool uBools cellsWorld cellsNameds cellsNamed cellsString cellsValue cellsInt cellsInt64 cellsBool cellsBools h
  refine ⟨t, ?_⟩
  rw [Wd.d, Rep]
  exact ⟨cs.toList, by simp, ht⟩
theorem open_i64 {base : Nat} {v : Value} {d : DataW H} {p : List MemPlace} (hok : Value.okWide Tryd.prog W .any base 2 v) (h : DataW.Trod enc Tryd.prog W 0 (fun _ => true) true 2 v d p) : ∃ n : Int, Rep (oldB W) W (.i n) v := by
  unfold Value.okWide at hok
  rw [uInt64] at hok
  obtain ⟨m, h⟩ := h
  obtain ⟨n, _, _, r⟩ := trod_i uInt64 h
  refine ⟨n, ?_⟩
  cases v with
  | agg cs =>
    simp [Cell.okWide, Cell.ok, uInt64] at hok
  | _ =>
    obtain ⟨u, hu, hr⟩ := r.one
    rw [show u = _ from (List.cons.inj hu).1.symm] at hr
    exact hr
theorem open_int {base : Nat} {v : Value} {d : DataW H} {p : List MemPlace} (hok : Value.okWide Tryd.prog W .any base 3 v) (h : DataW.Trod enc Tryd.prog W 0 (fun _ => true) true 3 v d p) : ∃ n : Int, Rep (oldB W) W (.i n) v := by
  unfold Value.okWide at hok
  rw [uInt] at hok
  obtain ⟨m, h⟩ := h
  obtain ⟨n, _, _, r⟩ := trod_i uInt h
  refine ⟨n, ?_⟩
  cases v with
  | agg cs =>
    simp [Cell.okWide, Cell.ok, uInt] at hok
  | _ =>
    obtain ⟨u, hu, hr⟩ := r.one
    rw [show u = _ from (List.cons.inj hu).1.symm] at hr
    exact hr
theorem open_str {base : Nat} {v : Value} {d : DataW H} {p : List MemPlace} (hok : Value.okWide Tryd.prog W .any base 9 v) (h : DataW.Trod enc Tryd.prog W 0 (fun _ => true) true 9 v d p) : ∃ s : ByteArray, Rep (oldB W) W (.s s) v := by
  unfold Value.okWide at hok
  rw [uString] at hok
  obtain ⟨m, h⟩ := h
  obtain ⟨n, r⟩ := trod_s uString h
  refine ⟨n, ?_⟩
  cases v with
  | agg cs =>
    simp [Cell.okWide, Cell.ok, uString] at hok
  | _ =>
    obtain ⟨u, hu, hr⟩ := r.one
    rw [show u = _ from (List.cons.inj hu).1.symm] at hr
    exact hr
end
def lay (c : Array Value) : Obj → Obj
  | .cells _ t frozen => .cells c t frozen
  | o => o
/-- the settled world, the listed tables lying where they are -/
noncomputable def laidWorld (os : Os) : World :=
  let w := World.holding Tryd.prog os ⟨#[], #[], []⟩
  { w with heap := (w.heap.modify 1 (lay ((Go.Pinned.utf8FirstZ.map fun n : Nat => Value.int .u8 (n : Int)).toArray))).modify 2 (lay #[.int .u8 128, .int .u8 191, .int .u8 160, .int .u8 191, .int .u8 128, .int .u8 159, .int .u8 144, .int .u8 191, .int .u8 128, .int .u8 143, .int .u8 0, .int .u8 0, .int .u8 0, .int .u8 0, .int .u8 0, .int .u8 0, .int .u8 0, .int .u8 0, .int .u8 0, .int .u8 0, .int .u8 0, .int .u8 0, .int .u8 0, .int .u8 0, .int .u8 0, .int .u8 0, .int .u8 0, .int .u8 0, .int .u8 0, .int .u8 0, .int .u8 0, .int .u8 0]) }
end Go.Proofs.YtlonmopppgadgaaDoor
