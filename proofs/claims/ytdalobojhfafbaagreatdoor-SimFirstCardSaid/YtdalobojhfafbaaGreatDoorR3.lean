/- Arguments that are texts, rows of terms, names that become terms. -/
import Derived.Test.YtdalobojhfafbaaGreatDoorR1
import Derived.Test.YtdalobojhfafbaaGreatDoorM13
set_option maxRecDepth 100000
set_option linter.unusedVariables false
namespace Go.V
open Go Go.RowKit Go.WideShapes Go.ChangeShapes
section
variable {H : Type} {enc : TypeId × Value → H} {P : Program} {W : World} {sp : Nat → Bool} {held : Bool}
/-- a name that becomes a term -/
theorem trod_as {tA tT ti ts t64 tS : TypeId} {fa fs : Array Field} (hA : P.underlying tA = some (.struct fa)) (hfa : fieldsAre fa [(ts, 0), (tT, 1)]) (hT : P.underlying tT = some (.struct fs)) (hf : fieldsAre fs [(ti, 0), (ts, 1), (t64, 2), (tS, 3)])
    (hi : P.underlying ti = some (.int .i64)) (hs : P.underlying ts = some .string) (h64 : P.underlying t64 = some (.int .i64)) (hS : P.underlying tS = some (.slice tT))
    (hcA : P.cellsOf tA = 5) (hc : P.cellsOf tT = 4) (hc1 : P.cellsOf ti = 1) (hc2 : P.cellsOf ts = 1) (hc3 : P.cellsOf t64 = 1) (hc4 : P.cellsOf tS = 1) {m : Nat} {cs : List Value} {x : DataW H × List MemPlace} (h : DataW.trod enc P W 0 sp held m tA cs = some x) : ∃ t : As, Reps (oldB W) W t.cr cs := by
  obtain ⟨n, rfl, hl, hg⟩ := trod_field hA hfa h
  rw [hcA] at hl
  match cs, hl with
  | [c0, c1, c2, c3, c4], _ =>
    obtain ⟨_, h0⟩ := hg 0 _ rfl
    obtain ⟨_, h1⟩ := hg 1 _ rfl
    rw [hc2] at h0; rw [hc] at h1
    obtain ⟨nm, r0⟩ := trod_s hs h0
    obtain ⟨t, r1⟩ := trod_tm hT hf hi hs h64 hS hc hc1 hc2 hc3 hc4 _ _ _ h1
    exact ⟨⟨nm, t⟩, r0.append r1⟩
end
end Go.V
namespace Go.Proofs.YtdalobojhfafbaaGreatDoor
open Go Go.V Go.ChangeShapes Go.WideShapes Go.ChangeAt Go.RowKit
theorem uAssigns : Tryz.prog.underlying 23 = some (.slice 68) := by kernel_rfl
theorem uAssign : ∃ fs, Tryz.prog.underlying 68 = some (.struct fs) ∧ fieldsAre fs [(9, 0), (27, 1)] := ⟨_, Tryz.underlying68, by unfold fieldsAre; kernel_rfl⟩
theorem cellsAssign : Tryz.prog.cellsOf 68 = 5 := by kernel_rfl
section
variable {H : Type} {enc : TypeId × Value → H} {W : World}
end
end Go.Proofs.YtdalobojhfafbaaGreatDoor
