/- Contracts of norm. -/
import Derived.Test.YtaigilchnadmpaaGreatDoorC4
import Derived.Test.YtaigilchnadmpaaGreatDoorT1
set_option maxRecDepth 100000
set_option linter.unusedVariables false
namespace Go.Proofs.YtaigilchnadmpaaGreatDoor
open Go Go.V
theorem arL_of {a : List Tm} (h : ∀ x ∈ a, arT x = true) : arL a = true := by
  induction a with
  | nil => rfl
  | cons x r ih => rw [arL, h x (by simp), ih fun y hy => h y (by simp [hy])]; rfl
theorem arT_of (t : Tm) : ∀ m, rightT t m = true → arT t = true := by
  induction t using Tm.ind' with
  | h t ih =>
    intro m h
    rw [right_iff] at h
    rw [arT_eq]
    simp only [Bool.and_eq_true, Bool.or_eq_true, decide_eq_true_eq]
    refine ⟨⟨?_, ?_⟩, arL_of fun x hx => ?_⟩
    · by_cases e : t.op = 18
      · have := h.len; rw [e] at this; exact .inr (this rfl)
      · exact .inl e
    · have h2 := h.op2
      by_cases e : t.op < 21
      · exact .inl (.inl e)
      · have hop : t.op = 21 ∨ t.op = 22 ∨ t.op = 23 ∨ t.op = 24 ∨ t.op = 25 ∨ t.op = 26 ∨ t.op = 27 ∨ t.op = 28 := by omega
        have := h.len
        refine .inr ?_
        rcases hop with e | e | e | e | e | e | e | e <;> (rw [e] at this; exact this rfl)
    · obtain ⟨i, hi, rfl⟩ := List.getElem_of_mem hx
      exact ih _ (List.getElem_mem hi) _ (h.kids i hi)
end Go.Proofs.YtaigilchnadmpaaGreatDoor
