/- What was put has the value that the term has in a world with the values. -/
import Derived.Test.YtdalobojhfafbaaGreatDoorM13
import Derived.Test.YtdalobojhfafbaaGreatDoorM15
set_option linter.unusedVariables false
namespace Go.V
open Go
end Go.V
/- A world in which names have the values of the terms that are put for them. -/
set_option linter.unusedVariables false
namespace Go.V
open Go
theorem isF_of {w : Wd} {v : Vl} {s : Int} (h1 : 1 ≤ w.nodes) (h : OkV w s v) (hs : s = 1 ∨ s = 2 ∨ s = 3 ∨ s = 4) : isF v w.nodes = true := by
  obtain ⟨rfl, h2, h3, h4, h5⟩ := h
  unfold isF
  rw [Bool.and_eq_true, Bool.and_eq_true, decide_eq_true_eq, decide_eq_true_eq]
  refine ⟨⟨?_, ?_⟩, ?_⟩
  · rw [h2]; split <;> omega
  · by_cases h : v.sort = 4
    · simp [h]
    · rw [h4 h]; rfl
  · rcases hs with e | e | e | e
    · exact .inl e
    · exact .inr (.inr (.inl ⟨e, h5 (.inl e)⟩))
    · exact .inr (.inl ⟨e, h3 e⟩)
    · exact .inr (.inr (.inr ⟨e, h5 (.inr e)⟩))
theorem shp_sort4 {op : Int} (h1 : 1 ≤ op) (h2 : op ≤ 28) : (shpAt op).sort = 1 ∨ (shpAt op).sort = 2 ∨ (shpAt op).sort = 3 ∨ (shpAt op).sort = 4 := by
  have : ∀ k : Fin 29, 1 ≤ k.1 → ((shpAt (k.1 : Int)).sort = 1 ∨ (shpAt (k.1 : Int)).sort = 2 ∨ (shpAt (k.1 : Int)).sort = 3 ∨ (shpAt (k.1 : Int)).sort = 4) := by decide
  have h := this ⟨op.toNat, by omega⟩ (by simp only; omega)
  simp only [Int.toNat_of_nonneg (show 0 ≤ op by omega)] at h
  exact h
/-- a value that is there -/
theorem eval_okV {t : Tm} {w : Wd} (hw : rightW w = true) (h0 : (sortF t).2 = 0) (he : (evalF t w).2 = 0) : evV w t = .ok (evalF t w).1 ∧ OkV w (sortF t).1 (evalF t w).1 ∧ isF (evalF t w).1 w.nodes = true := by
  have e := evalF_of hw (Prod.ext rfl h0 : sortF t = ((sortF t).1, 0))
  have hok : OkV w (sortF t).1 (evalF t w).1 := by
    rcases there_eval hw h0 with ⟨_, _, h⟩ | ⟨_, h | ⟨h, _⟩⟩
    · exact h
    · omega
    · omega
  refine ⟨?_, hok, ?_⟩
  · rw [e] at he ⊢
    cases hv : evV w t with
    | ok v => rfl
    | error x =>
      rw [hv] at he
      simp only at he
      have h := there_eval hw h0
      rw [e, hv] at h
      simp only at h
      rcases h with ⟨_, _, h⟩ | ⟨_, h | ⟨h, _⟩⟩
      · have := h.sort
        obtain ⟨_, _, r, hs⟩ := sortF_ok h0
        have r := (right_iff t 0).1 r
        have := shp_sort4 r.op1 r.op2
        have : vz.sort = 0 := rfl
        omega
      · omega
      · omega
  · obtain ⟨_, _, r, hs⟩ := sortF_ok h0
    have r := (right_iff t 0).1 r
    exact isF_of (rightW_spec hw).1 hok (by rw [hs]; exact shp_sort4 r.op1 r.op2)
end Go.V
