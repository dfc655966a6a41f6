/- The laws VennHolds and VennBase. -/
import Derived.Test.YtokpeggkofjclaaGreatDoorC46
import Derived.Test.YtokpeggkofjclaaGreatDoorM25
import Derived.Test.YtokpeggkofjclaaGreatDoorM7
set_option maxRecDepth 100000
set_option linter.unusedVariables false
namespace Go.V
open Go
theorem count_nz {p : Pl} {w : Wd} (h : (CountF p w).2 = 0) : CountF p w = ((CountF p w).1, 0) := Prod.ext rfl h
theorem base_mem {p : Pl} {r : Rw} (h : r ∈ BaseF p) : r.c.length = p.unk ∧ ((∃ i, r = rowF p (-1) 0 (eqR i)) ∨ r = rowF p (-1) 1 (fun _ => true) ∨ ∃ j, j < p.nodes.length ∧ (r = rowF p 1 (-1) (fun x => inB x (p.sets.length + j)) ∨ r = rowF p (-1) 1 fun x => inB x (p.sets.length + j))) := by
  have h2 : ∀ n, n ≤ p.nodes.length → r ∈ base2 p n → ∃ j, j < p.nodes.length ∧ (r = rowF p 1 (-1) (fun x => inB x (p.sets.length + j)) ∨ r = rowF p (-1) 1 fun x => inB x (p.sets.length + j)) := by
    intro n
    induction n with
    | zero => intro _ h; cases h
    | succ n ih =>
      intro hn h
      rw [base2, List.mem_append] at h
      rcases h with h | h
      · exact ih (by omega) h
      · simp only [List.mem_cons, List.not_mem_nil, or_false] at h
        exact ⟨n, by omega, h⟩
  unfold BaseF at h
  rw [List.mem_append, List.mem_append] at h
  rcases h with (h | h) | h
  · unfold base1 at h
    obtain ⟨i, _, rfl⟩ := List.mem_map.1 h
    exact ⟨rowF_len .., .inl ⟨i, rfl⟩⟩
  · rw [List.mem_singleton] at h
    subst h
    exact ⟨rowF_len .., .inr (.inl rfl)⟩
  · obtain ⟨j, hj, h⟩ := h2 _ (Nat.le_refl _) h
    refine ⟨?_, .inr (.inr ⟨j, hj, h⟩)⟩
    rcases h with rfl | rfl <;> exact rowF_len ..
theorem BaseF_len (p : Pl) : (BaseF p).length = p.reg + 1 + 2 * p.nodes.length := by
  unfold BaseF
  rw [List.length_append, List.length_append, base1_len, base2_len]; rfl
theorem CountF_len {p : Pl} {w : Wd} (h6 : p.circ ≤ 6) (f : (CountF p w).2 = 0) : (CountF p w).1.length = p.unk := by
  obtain ⟨rg, hC⟩ := CountF_spec h6 (count_nz f)
  exact hC.unk
end Go.V
namespace Go.Proofs.YtokpeggkofjclaaGreatDoor
open Go Go.V
end Go.Proofs.YtokpeggkofjclaaGreatDoor
