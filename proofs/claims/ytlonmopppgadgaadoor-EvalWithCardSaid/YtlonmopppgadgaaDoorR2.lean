/- How long an argument's set may be. -/
import Derived.Test.YtlonmopppgadgaaDoorR1
import Derived.SizedLaws
set_option maxRecDepth 100000
set_option linter.unusedVariables false
namespace Go.V
open Go Go.RowKit Go.WideShapes Go.ChangeShapes
section
variable {H : Type} {enc : TypeId × Value → H} {P : Program} {W : World} {sp : Nat → Bool} {held : Bool}
/-- the fourth field of a value, as long as its row's weight says -/
theorem trod_vlen {tV tb tS : TypeId} {fs : Array Field} {f : Field} (hT : P.underlying tV = some (.struct fs)) (hf3 : fs[3]? = some f) (hft : f.type = tS) (hfo : f.offset = 3)
    (hS : P.underlying tS = some (.slice tb)) (hc : P.cellsOf tV = 4) (hc4 : P.cellsOf tS = 1) (hb1 : P.bytesOf tb = 1)
    {m N : Nat} {cs : List Value} {x : DataW H × List MemPlace} (h : DataW.trod enc P W 0 sp held m tV cs = some x) (hz : ∀ n ∈ x.1.weights P tV, n ≤ N) {v : Vl} (hr : Reps (oldB W) W v.cs cs) : v.s.length ≤ N := by
  obtain ⟨xs, n, rfl, rfl, hl, hx, hg⟩ := DataW.trod_struct hT h
  rw [hc] at hl
  match cs, hl with
  | [c0, c1, c2, c3], _ =>
    have h3 := hg 3 f hf3
    rw [hft, hfo, hc4] at h3
    have h3 : DataW.trod enc P W 0 sp held n tS [c3] = xs[3]? := h3
    have hi : 3 < xs.length := by rw [hx]; exact (Array.getElem?_eq_some_iff.1 hf3).1
    rw [List.getElem?_eq_getElem hi] at h3
    unfold Vl.cs at hr
    rw [Reps] at hr; obtain ⟨u0, r0, e0, _, hr⟩ := hr
    injection e0 with _ e0; subst e0
    rw [Reps] at hr; obtain ⟨u1, r1, e1, _, hr⟩ := hr
    injection e1 with _ e1; subst e1
    rw [Reps] at hr; obtain ⟨u2, r2, e2, _, hr⟩ := hr
    injection e2 with _ e2; subst e2
    obtain ⟨u3, e3, g3⟩ := hr.one
    injection e3 with e3 _; subst e3
    rw [Rep] at g3
    obtain ⟨p, c, e, _, _⟩ := g3
    rw [List.length_map] at e
    rcases DataW.trod_slice hS h3 with ⟨q, _⟩ | ⟨a, len, cap, elems, rest, n', _, q, qx, _, _, _, ql, _⟩
    · injection q with q _
      rw [q] at e
      injection e with _ e _
      omega
    · injection q with q _
      rw [q] at e
      injection e with _ e _
      have hm : (elems.length + rest.length) * P.bytesOf tb ∈ (DataW.agg (xs.map (·.1))).weights P tV := by
        rw [DataW.weights, hT]
        refine DataW.weights_mem_each (j := 3) (t := tS) (d := xs[3].1) ?_ ?_ _ ?_
        · rw [List.getElem?_map, Array.getElem?_toList, hf3]; rw [← hft]; rfl
        · rw [List.getElem?_map, List.getElem?_eq_getElem hi]; rfl
        · rw [qx, DataW.weights, hS]
          simp
      have := hz _ hm
      rw [hb1] at this
      omega
end
end Go.V
namespace Go.Proofs.YtlonmopppgadgaaDoor
open Go Go.V Go.ChangeShapes Go.WideShapes Go.ChangeAt Go.RowKit
section
variable {H : Type} {enc : TypeId × Value → H} {W : World}
theorem open_vlN {base : Nat} {v : Value} {d : DataW H} {p : List MemPlace} (hok : Value.okWide Tryd.prog W .any base 39 v) (h : DataW.Trod enc Tryd.prog W 0 (fun _ => true) true 39 v d p) {N : Nat} (hz : ∀ n ∈ d.weights Tryd.prog 39, n ≤ N) : ∃ t : Vl, Rep (oldB W) W t.d v ∧ t.s.length ≤ N := by
  obtain ⟨t, ht⟩ := open_vl hok h
  obtain ⟨fs, hT, hf⟩ := uValue
  have ht' := ht
  rw [Vl.d, Rep] at ht'
  obtain ⟨cs, rfl, hr⟩ := ht'
  obtain ⟨m, h⟩ := h
  unfold fieldsAre at hf
  have h3 : (fs.toList.map fun f => (f.type, f.offset))[3]? = some (37, 3) := by rw [hf]; rfl
  rw [List.getElem?_map, Option.map_eq_some_iff] at h3
  obtain ⟨f, hf3, hfe⟩ := h3
  have hf3 : fs[3]? = some f := by rw [← Array.getElem?_toList]; exact hf3
  refine ⟨t, ht, trod_vlen (f := f) hT hf3 (congrArg Prod.fst hfe) (congrArg Prod.snd hfe) uBools cellsValue cellsBools (by kernel_rfl) h hz ?_⟩
  simpa [Value.cells] using hr
end
end Go.Proofs.YtlonmopppgadgaaDoor
