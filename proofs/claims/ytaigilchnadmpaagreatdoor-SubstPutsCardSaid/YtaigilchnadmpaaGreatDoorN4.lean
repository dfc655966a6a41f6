/- Names among right terms. -/
import Derived.Test.YtaigilchnadmpaaGreatDoorN1
set_option linter.unusedVariables false
namespace Go.V
open Go
/-- the operations that take a name -/
theorem named_iff {t : Tm} {s : Int} (h : rightT t s = true) : (shpAt t.op).name = true ↔ t.op = 2 ∨ t.op = 7 ∨ t.op = 14 ∨ t.op = 15 := by
  have r := (right_iff t s).1 h
  have : ∀ k : Fin 29, (shpAt (k.1 : Int)).name = true ↔ (k.1 : Int) = 2 ∨ (k.1 : Int) = 7 ∨ (k.1 : Int) = 14 ∨ (k.1 : Int) = 15 := by decide
  have h := this ⟨t.op.toNat, by have := r.op1; have := r.op2; omega⟩
  have h0 := r.op1
  simp only [Int.toNat_of_nonneg (show 0 ≤ t.op by omega)] at h
  exact h
/-- a name of a right term: it alone -/
theorem right_named {t : Tm} {s : Int} (h : rightT t s = true) (ho : t.op = 2 ∨ t.op = 7 ∨ t.op = 14 ∨ t.op = 15) : t.a = [] ∧ collT t = [(t.nm.data.toList, t.op)] := by
  have r := (right_iff t s).1 h
  have hnm := (named_iff h).2 ho
  have ha : t.a = [] := by
    have hlen := r.len
    rcases ho with e | e | e | e <;> (rw [e] at hlen; exact List.length_eq_zero_iff.1 (hlen rfl))
  have hnn : t.nm ≠ ⟨#[]⟩ := fun e => by
    have := r.nm1 hnm
    rw [e] at this
    cases this
  exact ⟨ha, by rw [collT_eq, if_neg hnn, ha, collL]; rfl⟩
theorem right_bare' {t : Tm} {s : Int} (h : rightT t s = true) (ho : ¬ (t.op = 2 ∨ t.op = 7 ∨ t.op = 14 ∨ t.op = 15)) : collT t = collL t.a := by
  have r := (right_iff t s).1 h
  have hnm : (shpAt t.op).name = false := by
    cases hh : (shpAt t.op).name
    · rfl
    · exact absurd ((named_iff h).1 hh) ho
  rw [collT_eq, if_pos (r.nm2 hnm)]; rfl
end Go.V
