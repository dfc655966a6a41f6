/- Contracts of the document's Norm; the law NormTells. -/
import Derived.Test.YtaigilchnadmpaaGreatDoorC9
import Derived.Test.YtaigilchnadmpaaGreatDoorC7
set_option maxRecDepth 100000
set_option linter.unusedVariables false
namespace Go.Proofs.YtaigilchnadmpaaGreatDoor
open Go Go.V
theorem NormF_dep (t : Tm) : (NormF t).1.dep ≤ 100 := by
  by_cases h : (NormF t).2 = 0
  · obtain ⟨_, _, _, e, _, k2, _⟩ := NormF_ok h
    rw [e]; exact k2
  · unfold NormF at h ⊢
    split at h
    · next h1 => rw [if_pos h1]; exact (by decide : (mk 0 []).dep ≤ 100)
    · next h1 =>
      rw [if_neg h1]
      split at h
      · next h2 => rw [if_pos h2]; exact (by decide : (mk 0 []).dep ≤ 100)
      · next h2 =>
        rw [if_neg h2]
        split at h
        · next h3 => rw [if_pos h3]; exact (by decide : (mk 0 []).dep ≤ 100)
        · exact absurd rfl h
end Go.Proofs.YtaigilchnadmpaaGreatDoor
