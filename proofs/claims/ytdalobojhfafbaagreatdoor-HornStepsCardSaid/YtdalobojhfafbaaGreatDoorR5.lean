/- Arguments that are texts, rows of terms, names that become terms. -/
import Derived.Test.YtdalobojhfafbaaGreatDoorR1
import Derived.Test.YtdalobojhfafbaaGreatDoorM13
import Derived.Test.YtdalobojhfafbaaGreatDoorM29
import Derived.Test.YtdalobojhfafbaaGreatDoorM37
set_option maxRecDepth 100000
set_option linter.unusedVariables false
namespace Go.V
open Go Go.RowKit Go.WideShapes Go.ChangeShapes
section
variable {H : Type} {enc : TypeId × Value → H} {P : Program} {W : World} {sp : Nat → Bool} {held : Bool}
theorem trod_as {tA tT ti ts t64 tS : TypeId} {fa fs : Array Field} (hA : P.underlying tA = some (.struct fa)) (hfa : fieldsAre fa [(ts, 0), (tT, 1)]) (hT : P.underlying tT = some (.struct fs)) (hf : fieldsAre fs [(ti, 0), (ts, 1), (t64, 2), (tS, 3)])
    (hi : P.underlying ti = some (.int .i64)) (hs : P.underlying ts = some .string) (h64 : P.underlying t64 = some (.int .i64)) (hS : P.underlying tS = some (.slice tT))
    (hcA : P.cellsOf tA = 5) (hc : P.cellsOf tT = 4) (hc1 : P.cellsOf ti = 1) (hc2 : P.cellsOf ts = 1) (hc3 : P.cellsOf t64 = 1) (hc4 : P.cellsOf tS = 1) {m : Nat} {cs : List Value} {x : DataW H × List MemPlace} (h : DataW.trod enc P W 0 sp held m tA cs = some x) : ∃ t : As, Reps (oldB W) W t.cr cs := by
  obtain ⟨n, rfl, hl, hg⟩ := trod_field hA hfa h
  rw [hcA] at hl
  match cs, hl with
  | [c0, c1, c2, c3, c4], _ =>
    obtain ⟨_, h0⟩ := hg 0 _ rfl
    obtain ⟨_, h1⟩ := hg 1 _ rfl
    rw [hc2] at h0; rw [hc] at h1
    obtain ⟨nm, r0⟩ := trod_s hs h0
    obtain ⟨t, r1⟩ := trod_tm hT hf hi hs h64 hS hc hc1 hc2 hc3 hc4 _ _ _ h1
    exact ⟨⟨nm, t⟩, r0.append r1⟩
end
end Go.V
namespace Go.Proofs.YtdalobojhfafbaaGreatDoor
open Go Go.V Go.ChangeShapes Go.WideShapes Go.ChangeAt Go.RowKit
theorem uAssigns : Tryz.prog.underlying 23 = some (.slice 68) := by kernel_rfl
theorem uAssign : ∃ fs, Tryz.prog.underlying 68 = some (.struct fs) ∧ fieldsAre fs [(9, 0), (27, 1)] := ⟨_, Tryz.underlying68, by unfold fieldsAre; kernel_rfl⟩
theorem cellsAssign : Tryz.prog.cellsOf 68 = 5 := by kernel_rfl
section
variable {H : Type} {enc : TypeId × Value → H} {W : World}
end
end Go.Proofs.YtdalobojhfafbaaGreatDoor
set_option maxRecDepth 100000
set_option linter.unusedVariables false
namespace Go.V
open Go Go.RowKit Go.WideShapes Go.ChangeShapes
end Go.V
namespace Go.Proofs.YtdalobojhfafbaaGreatDoor
open Go Go.V Go.ChangeShapes Go.WideShapes Go.ChangeAt Go.RowKit
theorem uStrs : Tryz.prog.underlying 22 = some (.slice 9) := by kernel_rfl
theorem uHands : Tryz.prog.underlying 24 = some (.slice 66) := by kernel_rfl
theorem uHand : ∃ fs, Tryz.prog.underlying 66 = some (.struct fs) ∧ fieldsAre fs [(4, 0), (9, 1), (9, 2), (27, 3), (23, 7), (22, 8)] := ⟨_, Tryz.underlying66, by unfold fieldsAre; kernel_rfl⟩
theorem uProt : ∃ fs, Tryz.prog.underlying 29 = some (.struct fs) ∧ fieldsAre fs [(22, 0), (22, 1), (22, 2), (22, 3), (23, 4), (24, 5), (27, 6), (25, 10)] := ⟨_, Tryz.underlying29, by unfold fieldsAre; kernel_rfl⟩
theorem cellsHand : Tryz.prog.cellsOf 66 = 9 := by kernel_rfl
theorem cellsProt : Tryz.prog.cellsOf 29 = 11 := by kernel_rfl
theorem cellsStrs : Tryz.prog.cellsOf 22 = 1 := by kernel_rfl
theorem cellsAssigns : Tryz.prog.cellsOf 23 = 1 := by kernel_rfl
theorem cellsHands : Tryz.prog.cellsOf 24 = 1 := by kernel_rfl
section
variable {H : Type} {enc : TypeId × Value → H} {W : World} {sp : Nat → Bool} {held : Bool} {m : Nat} {cs : List Value} {x : DataW H × List MemPlace}
theorem trod_strs (h : DataW.trod enc Tryz.prog W 0 sp held m 22 cs = some x) : ∃ l : List ByteArray, Reps (oldB W) W [.row 1 (sT l)] cs := by
  obtain ⟨l, hq, r⟩ := trod_row (Q := fun d => ∃ s : ByteArray, d = [.s s]) uStrs h (fun q hq cs x hx => by
    obtain ⟨s, r⟩ := trod_s uString hx
    exact ⟨[.s s], ⟨s, rfl⟩, r⟩) (by rw [cellsString]; decide)
  obtain ⟨a, rfl⟩ := rows_of (f := fun s : ByteArray => [D.s s]) hq
  rw [cellsString] at r
  exact ⟨a, r⟩
theorem trod_tms (h : DataW.trod enc Tryz.prog W 0 sp held m 25 cs = some x) : ∃ l : List Tm, Reps (oldB W) W [.row 4 (Tm.rows l)] cs := by
  obtain ⟨fs, hT, hf⟩ := uTerm
  obtain ⟨l, hq, r⟩ := trod_row (Q := fun d => ∃ t : Tm, d = t.cs) uTerms h (fun q hq cs x hx => by
    obtain ⟨t, ht⟩ := trod_tm hT hf uInt uString uInt64 uTerms cellsTerm cellsInt cellsString cellsInt64 cellsTerms _ _ _ hx
    exact ⟨t.cs, ⟨t, rfl⟩, ht⟩) (by rw [cellsTerm]; decide)
  obtain ⟨a, rfl⟩ := tms_of hq
  rw [cellsTerm] at r
  exact ⟨a, r⟩
theorem trod_asns (h : DataW.trod enc Tryz.prog W 0 sp held m 23 cs = some x) : ∃ l : List As, Reps (oldB W) W [.row 5 (l.map As.cr)] cs := by
  obtain ⟨fs, hT, hf⟩ := uTerm
  obtain ⟨fa, hA, hfa⟩ := uAssign
  obtain ⟨l, hq, r⟩ := trod_row (Q := fun d => ∃ t : As, d = t.cr) uAssigns h (fun q hq cs x hx => by
    obtain ⟨t, ht⟩ := trod_as hA hfa hT hf uInt uString uInt64 uTerms cellsAssign cellsTerm cellsInt cellsString cellsInt64 cellsTerms hx
    exact ⟨t.cr, ⟨t, rfl⟩, ht⟩) (by rw [cellsAssign]; decide)
  obtain ⟨a, rfl⟩ := rows_of hq
  rw [cellsAssign] at r
  exact ⟨a, r⟩
theorem trod_t4 (h : DataW.trod enc Tryz.prog W 0 sp held m 27 cs = some x) : ∃ t : Tm, Reps (oldB W) W t.cs cs := by
  obtain ⟨fs, hT, hf⟩ := uTerm
  exact trod_tm hT hf uInt uString uInt64 uTerms cellsTerm cellsInt cellsString cellsInt64 cellsTerms _ _ _ h
theorem trod_ha (h : DataW.trod enc Tryz.prog W 0 sp held m 66 cs = some x) : ∃ t : Ha, Reps (oldB W) W t.cs cs := by
  obtain ⟨fs, hT, hf⟩ := uHand
  obtain ⟨n, rfl, hl, hg⟩ := trod_field hT hf h
  rw [cellsHand] at hl
  match cs, hl with
  | [c0, c1, c2, c3, c4, c5, c6, c7, c8], _ =>
    obtain ⟨_, h0⟩ := hg 0 _ rfl
    obtain ⟨_, h1⟩ := hg 1 _ rfl
    obtain ⟨_, h2⟩ := hg 2 _ rfl
    obtain ⟨_, h3⟩ := hg 3 _ rfl
    obtain ⟨_, h4⟩ := hg 4 _ rfl
    obtain ⟨_, h5⟩ := hg 5 _ rfl
    rw [cellsBool] at h0; rw [cellsString] at h1 h2; rw [cellsTerm] at h3; rw [cellsAssigns] at h4; rw [cellsStrs] at h5
    obtain ⟨b, r0⟩ := trod_b uBool h0
    obtain ⟨s1, r1⟩ := trod_s uString h1
    obtain ⟨s2, r2⟩ := trod_s uString h2
    obtain ⟨t, r3⟩ := trod_t4 h3
    obtain ⟨l, r4⟩ := trod_asns h4
    obtain ⟨k, r5⟩ := trod_strs h5
    refine ⟨⟨b, s1, s2, t, l, k⟩, ?_⟩
    have := (((((r0.append r1).append r2).append r3).append r4).append r5)
    simpa [Ha.cs] using this
theorem trod_hands (h : DataW.trod enc Tryz.prog W 0 sp held m 24 cs = some x) : ∃ l : List Ha, Reps (oldB W) W [.row 9 (l.map Ha.cs)] cs := by
  obtain ⟨l, hq, r⟩ := trod_row (Q := fun d => ∃ t : Ha, d = t.cs) uHands h (fun q hq cs x hx => by
    obtain ⟨t, ht⟩ := trod_ha hx
    exact ⟨t.cs, ⟨t, rfl⟩, ht⟩) (by rw [cellsHand]; decide)
  obtain ⟨a, rfl⟩ := rows_of hq
  rw [cellsHand] at r
  exact ⟨a, r⟩
theorem trod_pr (h : DataW.trod enc Tryz.prog W 0 sp held m 29 cs = some x) : ∃ p : Pr, Reps (oldB W) W p.cs cs := by
  obtain ⟨fs, hT, hf⟩ := uProt
  obtain ⟨n, rfl, hl, hg⟩ := trod_field hT hf h
  rw [cellsProt] at hl
  match cs, hl with
  | [c0, c1, c2, c3, c4, c5, c6, c7, c8, c9, c10], _ =>
    obtain ⟨_, h0⟩ := hg 0 _ rfl
    obtain ⟨_, h1⟩ := hg 1 _ rfl
    obtain ⟨_, h2⟩ := hg 2 _ rfl
    obtain ⟨_, h3⟩ := hg 3 _ rfl
    obtain ⟨_, h4⟩ := hg 4 _ rfl
    obtain ⟨_, h5⟩ := hg 5 _ rfl
    obtain ⟨_, h6⟩ := hg 6 _ rfl
    obtain ⟨_, h7⟩ := hg 7 _ rfl
    rw [cellsStrs] at h0 h1 h2 h3; rw [cellsAssigns] at h4; rw [cellsHands] at h5; rw [cellsTerm] at h6; rw [cellsTerms] at h7
    obtain ⟨a0, r0⟩ := trod_strs h0
    obtain ⟨a1, r1⟩ := trod_strs h1
    obtain ⟨a2, r2⟩ := trod_strs h2
    obtain ⟨a3, r3⟩ := trod_strs h3
    obtain ⟨a4, r4⟩ := trod_asns h4
    obtain ⟨a5, r5⟩ := trod_hands h5
    obtain ⟨a6, r6⟩ := trod_t4 h6
    obtain ⟨a7, r7⟩ := trod_tms h7
    refine ⟨⟨a0, a1, a2, a3, a4, a5, a6, a7⟩, ?_⟩
    have := (((((((r0.append r1).append r2).append r3).append r4).append r5).append r6).append r7)
    simpa [Pr.cs] using this
theorem open_pr {base : Nat} {v : Value} {d : DataW H} {p : List MemPlace} (hok : Value.okWide Tryz.prog W .any base 29 v) (h : DataW.Trod enc Tryz.prog W 0 (fun _ => true) true 29 v d p) : ∃ t : Pr, Rep (oldB W) W t.d v := by
  obtain ⟨fs, hT, hf⟩ := uProt
  unfold Value.okWide at hok
  rw [hT] at hok
  obtain ⟨cs, rfl, _, _⟩ := hok
  obtain ⟨m, h⟩ := h
  obtain ⟨t, ht⟩ := trod_pr h
  refine ⟨t, ?_⟩
  rw [Pr.d, Rep]
  exact ⟨cs.toList, by simp, ht⟩
end
end Go.Proofs.YtdalobojhfafbaaGreatDoor
set_option maxRecDepth 100000
set_option linter.unusedVariables false
namespace Go.Proofs.YtdalobojhfafbaaGreatDoor
open Go Go.V Go.ChangeShapes Go.WideShapes Go.ChangeAt Go.RowKit
theorem uSteps19 : Tryz.prog.underlying 82 = some (.slice 85) := by kernel_rfl
theorem uStep19 : ∃ fs, Tryz.prog.underlying 85 = some (.struct fs) ∧ fieldsAre fs [(3, 0), (3, 1), (3, 2)] := ⟨_, Tryz.underlying85, by unfold fieldsAre; kernel_rfl⟩
theorem cellsStep19 : Tryz.prog.cellsOf 85 = 3 := by kernel_rfl
theorem open_steps19 {H : Type} {enc : TypeId × Value → H} {W : World} {base : Nat} {v : Value} {d : DataW H} {p : List MemPlace} (hok : Value.okWide Tryz.prog W .any base 82 v) (h : DataW.Trod enc Tryz.prog W 0 (fun _ => true) true 82 v d p) : ∃ a : List Stp, Rep (oldB W) W (.row 3 (a.map Stp.cs)) v := by
  unfold Value.okWide at hok
  rw [uSteps19] at hok
  obtain ⟨m, h⟩ := h
  obtain ⟨fs, hT, hf⟩ := uStep19
  obtain ⟨l, hq, r⟩ := trod_row (Q := fun d => ∃ t : Stp, d = t.cs) uSteps19 h (fun q hq cs x hx => by
    obtain ⟨n, rfl, hl, hg⟩ := trod_field hT hf hx
    rw [cellsStep19] at hl
    match cs, hl with
    | [c0, c1, c2], _ =>
      obtain ⟨_, h0⟩ := hg 0 _ rfl
      obtain ⟨_, h1⟩ := hg 1 _ rfl
      obtain ⟨_, h2⟩ := hg 2 _ rfl
      rw [cellsInt] at h0 h1 h2
      obtain ⟨a0, _, _, r0⟩ := trod_i uInt h0
      obtain ⟨a1, _, _, r1⟩ := trod_i uInt h1
      obtain ⟨a2, _, _, r2⟩ := trod_i uInt h2
      exact ⟨_, ⟨⟨a0, a1, a2⟩, rfl⟩, (r0.append r1).append r2⟩) (by rw [cellsStep19]; decide)
  obtain ⟨a, rfl⟩ := rows_of hq
  rw [cellsStep19] at r
  refine ⟨a, ?_⟩
  cases v with
  | agg cs =>
    simp [Cell.okWide, Cell.ok] at hok
  | _ =>
    obtain ⟨u, hu, hr⟩ := r.one
    rw [show u = _ from (List.cons.inj hu).1.symm] at hr
    exact hr
end Go.Proofs.YtdalobojhfafbaaGreatDoor
