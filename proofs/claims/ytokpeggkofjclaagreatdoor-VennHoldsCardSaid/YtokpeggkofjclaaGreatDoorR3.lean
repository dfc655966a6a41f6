/- Arguments that are texts, rows of terms, names that become terms. -/
import Derived.Test.YtokpeggkofjclaaGreatDoorR1
import Derived.Test.YtokpeggkofjclaaGreatDoorM13
set_option maxRecDepth 100000
set_option linter.unusedVariables false
namespace Go.V
open Go Go.RowKit Go.WideShapes Go.ChangeShapes
section
variable {H : Type} {enc : TypeId × Value → H} {P : Program} {W : World} {sp : Nat → Bool} {held : Bool}
/-- a name that becomes a term -/
theorem trod_as {tA tT ti ts t64 tS : TypeId} {fa fs : Array Field} (hA : P.underlying tA = some (.struct fa)) (hfa : fieldsAre fa [(ts, 0), (tT, 1)]) (hT : P.underlying tT = some (.struct fs)) (hf : fieldsAre fs [(ti, 0), (ts, 1), (t64, 2), (tS, 3)])
    (hi : P.underlying ti = some (.int .i64)) (hs : P.underlying ts = some .string) (h64 : P.underlying t64 = some (.int .i64)) (hS : P.underlying tS = some (.slice tT))
    (hcA : P.cellsOf tA = 5) (hc : P.cellsOf tT = 4) (hc1 : P.cellsOf ti = 1) (hc2 : P.cellsOf ts = 1) (hc3 : P.cellsOf t64 = 1) (hc4 : P.cellsOf tS = 1) {m : Nat} {cs : List Value} {x : DataW H × List MemPlace} (h : DataW.trod enc P W 0 sp held m tA cs = some x) : ∃ t : As, Reps (oldB W) W t.cr cs := by
  obtain ⟨n, rfl, hl, hg⟩ := trod_field hA hfa h
  rw [hcA] at hl
  match cs, hl with
  | [c0, c1, c2, c3, c4], _ =>
    obtain ⟨_, h0⟩ := hg 0 _ rfl
    obtain ⟨_, h1⟩ := hg 1 _ rfl
    rw [hc2] at h0; rw [hc] at h1
    obtain ⟨nm, r0⟩ := trod_s hs h0
    obtain ⟨t, r1⟩ := trod_tm hT hf hi hs h64 hS hc hc1 hc2 hc3 hc4 _ _ _ h1
    exact ⟨⟨nm, t⟩, r0.append r1⟩
end
end Go.V
namespace Go.Proofs.YtokpeggkofjclaaGreatDoor
open Go Go.V Go.ChangeShapes Go.WideShapes Go.ChangeAt Go.RowKit
theorem uAssigns : Tryz.prog.underlying 74 = some (.slice 77) := by kernel_rfl
theorem uAssign : ∃ fs, Tryz.prog.underlying 77 = some (.struct fs) ∧ fieldsAre fs [(9, 0), (24, 1)] := ⟨_, Tryz.underlying77, by unfold fieldsAre; kernel_rfl⟩
theorem cellsAssign : Tryz.prog.cellsOf 77 = 5 := by kernel_rfl
section
variable {H : Type} {enc : TypeId × Value → H} {W : World}
theorem ints_of : ∀ {l : List (List D)}, (∀ d ∈ l, ∃ n : Int, d = [.i n]) → ∃ a : List Int, l = a.map fun n => [.i n]
  | [], _ => ⟨[], rfl⟩
  | d :: l, h => by
    obtain ⟨t, rfl⟩ := h d (by simp)
    obtain ⟨a, rfl⟩ := ints_of (l := l) fun x hx => h x (by simp [hx])
    exact ⟨t :: a, rfl⟩
theorem uI64s : Tryz.prog.underlying 28 = some (.slice 2) := by kernel_rfl
theorem open_i64s {base : Nat} {v : Value} {d : DataW H} {p : List MemPlace} (hok : Value.okWide Tryz.prog W .any base 28 v) (h : DataW.Trod enc Tryz.prog W 0 (fun _ => true) true 28 v d p) : ∃ a : List Int, Rep (oldB W) W (.row 1 (a.map fun n => [.i n])) v := by
  unfold Value.okWide at hok
  rw [uI64s] at hok
  obtain ⟨m, h⟩ := h
  obtain ⟨l, hq, r⟩ := trod_row (Q := fun d => ∃ n : Int, d = [.i n]) uI64s h (fun q hq cs x hx => by
    obtain ⟨n, _, _, r⟩ := trod_i uInt64 hx
    exact ⟨[.i n], ⟨n, rfl⟩, r⟩) (by rw [cellsInt64]; decide)
  obtain ⟨a, rfl⟩ := ints_of hq
  rw [cellsInt64] at r
  refine ⟨a, ?_⟩
  cases v with
  | agg cs =>
    simp [Cell.okWide, Cell.ok] at hok
  | _ =>
    obtain ⟨u, hu, hr⟩ := r.one
    rw [show u = _ from (List.cons.inj hu).1.symm] at hr
    exact hr
theorem open_bool {base : Nat} {v : Value} {d : DataW H} {p : List MemPlace} (hok : Value.okWide Tryz.prog W .any base 4 v) (h : DataW.Trod enc Tryz.prog W 0 (fun _ => true) true 4 v d p) : ∃ n : Bool, Rep (oldB W) W (.b n) v := by
  unfold Value.okWide at hok
  rw [uBool] at hok
  obtain ⟨m, h⟩ := h
  obtain ⟨n, r⟩ := trod_b uBool h
  refine ⟨n, ?_⟩
  cases v with
  | agg cs =>
    simp [Cell.okWide, Cell.ok] at hok
  | _ =>
    obtain ⟨u, hu, hr⟩ := r.one
    rw [show u = _ from (List.cons.inj hu).1.symm] at hr
    exact hr
theorem open_strl {base : Nat} {v : Value} {d : DataW H} {p : List MemPlace} (hok : Value.okWide Tryz.prog W .any base 9 v) (h : DataW.Trod enc Tryz.prog W 0 (fun _ => true) true 9 v d p) : ∃ s : List UInt8, Rep (oldB W) W (.s (str s)) v := by
  obtain ⟨s, hs⟩ := open_str hok h
  exact ⟨s.data.toList, by rw [← str_of]; exact hs⟩
theorem open_tms {base : Nat} {v : Value} {d : DataW H} {p : List MemPlace} (hok : Value.okWide Tryz.prog W .any base 22 v) (h : DataW.Trod enc Tryz.prog W 0 (fun _ => true) true 22 v d p) : ∃ a : List Tm, Rep (oldB W) W (.row 4 (Tm.rows a)) v := by
  obtain ⟨fs, hT, hf⟩ := uTerm
  unfold Value.okWide at hok
  rw [uTerms] at hok
  obtain ⟨m, h⟩ := h
  obtain ⟨l, hq, r⟩ := trod_row (Q := fun d => ∃ t : Tm, d = t.cs) uTerms h (fun q hq cs x hx => by
    obtain ⟨t, ht⟩ := trod_tm hT hf uInt uString uInt64 uTerms cellsTerm cellsInt cellsString cellsInt64 cellsTerms _ _ _ hx
    exact ⟨t.cs, ⟨t, rfl⟩, ht⟩) (by rw [cellsTerm]; decide)
  obtain ⟨a, rfl⟩ := tms_of hq
  rw [cellsTerm] at r
  refine ⟨a, ?_⟩
  cases v with
  | agg cs =>
    simp [Cell.okWide, Cell.ok] at hok
  | _ =>
    obtain ⟨u, hu, hr⟩ := r.one
    rw [show u = _ from (List.cons.inj hu).1.symm] at hr
    exact hr
theorem open_asn {base : Nat} {v : Value} {d : DataW H} {p : List MemPlace} (hok : Value.okWide Tryz.prog W .any base 74 v) (h : DataW.Trod enc Tryz.prog W 0 (fun _ => true) true 74 v d p) : ∃ a : List As, Rep (oldB W) W (.row 5 (a.map As.cr)) v := by
  obtain ⟨fs, hT, hf⟩ := uTerm
  obtain ⟨fa, hA, hfa⟩ := uAssign
  unfold Value.okWide at hok
  rw [uAssigns] at hok
  obtain ⟨m, h⟩ := h
  obtain ⟨l, hq, r⟩ := trod_row (Q := fun d => ∃ t : As, d = t.cr) uAssigns h (fun q hq cs x hx => by
    obtain ⟨t, ht⟩ := trod_as hA hfa hT hf uInt uString uInt64 uTerms cellsAssign cellsTerm cellsInt cellsString cellsInt64 cellsTerms hx
    exact ⟨t.cr, ⟨t, rfl⟩, ht⟩) (by rw [cellsAssign]; decide)
  obtain ⟨a, rfl⟩ := rows_of hq
  rw [cellsAssign] at r
  refine ⟨a, ?_⟩
  cases v with
  | agg cs =>
    simp [Cell.okWide, Cell.ok] at hok
  | _ =>
    obtain ⟨u, hu, hr⟩ := r.one
    rw [show u = _ from (List.cons.inj hu).1.symm] at hr
    exact hr
end
end Go.Proofs.YtokpeggkofjclaaGreatDoor
