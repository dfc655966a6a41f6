/- Arguments that are texts, rows of terms, names that become terms. -/
import Derived.Test.YtokpeggkofjclaaGreatDoorR1
import Derived.Test.YtokpeggkofjclaaGreatDoorM13
set_option maxRecDepth 100000
set_option linter.unusedVariables false
namespace Go.V
open Go Go.RowKit Go.WideShapes Go.ChangeShapes
section
variable {H : Type} {enc : TypeId × Value → H} {P : Program} {W : World} {sp : Nat → Bool} {held : Bool}
end
end Go.V
namespace Go.Proofs.YtokpeggkofjclaaGreatDoor
open Go Go.V Go.ChangeShapes Go.WideShapes Go.ChangeAt Go.RowKit
section
variable {H : Type} {enc : TypeId × Value → H} {W : World}
theorem ints_of : ∀ {l : List (List D)}, (∀ d ∈ l, ∃ n : Int, d = [.i n]) → ∃ a : List Int, l = a.map fun n => [.i n]
  | [], _ => ⟨[], rfl⟩
  | d :: l, h => by
    obtain ⟨t, rfl⟩ := h d (by simp)
    obtain ⟨a, rfl⟩ := ints_of (l := l) fun x hx => h x (by simp [hx])
    exact ⟨t :: a, rfl⟩
theorem uI64s : Tryz.prog.underlying 28 = some (.slice 2) := by kernel_rfl
theorem open_i64s {base : Nat} {v : Value} {d : DataW H} {p : List MemPlace} (hok : Value.okWide Tryz.prog W .any base 28 v) (h : DataW.Trod enc Tryz.prog W 0 (fun _ => true) true 28 v d p) : ∃ a : List Int, Rep (oldB W) W (.row 1 (a.map fun n => [.i n])) v := by
  unfold Value.okWide at hok
  rw [uI64s] at hok
  obtain ⟨m, h⟩ := h
  obtain ⟨l, hq, r⟩ := trod_row (Q := fun d => ∃ n : Int, d = [.i n]) uI64s h (fun q hq cs x hx => by
    obtain ⟨n, _, _, r⟩ := trod_i uInt64 hx
    exact ⟨[.i n], ⟨n, rfl⟩, r⟩) (by rw [cellsInt64]; decide)
  obtain ⟨a, rfl⟩ := ints_of hq
  rw [cellsInt64] at r
  refine ⟨a, ?_⟩
  cases v with
  | agg cs =>
    simp [Cell.okWide, Cell.ok] at hok
  | _ =>
    obtain ⟨u, hu, hr⟩ := r.one
    rw [show u = _ from (List.cons.inj hu).1.symm] at hr
    exact hr
theorem open_bool {base : Nat} {v : Value} {d : DataW H} {p : List MemPlace} (hok : Value.okWide Tryz.prog W .any base 4 v) (h : DataW.Trod enc Tryz.prog W 0 (fun _ => true) true 4 v d p) : ∃ n : Bool, Rep (oldB W) W (.b n) v := by
  unfold Value.okWide at hok
  rw [uBool] at hok
  obtain ⟨m, h⟩ := h
  obtain ⟨n, r⟩ := trod_b uBool h
  refine ⟨n, ?_⟩
  cases v with
  | agg cs =>
    simp [Cell.okWide, Cell.ok] at hok
  | _ =>
    obtain ⟨u, hu, hr⟩ := r.one
    rw [show u = _ from (List.cons.inj hu).1.symm] at hr
    exact hr
end
end Go.Proofs.YtokpeggkofjclaaGreatDoor
