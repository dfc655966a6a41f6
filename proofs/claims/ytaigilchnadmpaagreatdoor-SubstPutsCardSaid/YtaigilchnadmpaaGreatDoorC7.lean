/- Contracts: the laws NormAgain and NormTurned. -/
import Derived.Test.YtaigilchnadmpaaGreatDoorC6
set_option maxRecDepth 100000
set_option linter.unusedVariables false
namespace Go.Proofs.YtaigilchnadmpaaGreatDoor
open Go Go.V
/-- of what Norm makes -/
theorem NormF_ok {t : Tm} (h : (NormF t).2 = 0) : t.size ≤ 2000 ∧ t.dep ≤ 100 ∧ rightT t 4 = true ∧ (NormF t).1 = normT t false ∧ (normT t false).size ≤ 2000 ∧ (normT t false).dep ≤ 100 ∧ rightT (normT t false) 4 = true ∧ sortF (normT t false) = (4, 0) := by
  unfold NormF at h ⊢
  split at h
  · next h1 => exact absurd h h1
  · next h1 =>
    split at h
    · cases h
    · next h2 =>
      split at h
      · cases h
      · next h3 =>
        rw [if_neg h1, if_neg h2, if_neg h3]
        obtain ⟨g1, g2, g3⟩ := sortF_bool (t := t) (by omega) (by omega)
        obtain ⟨k1, k2, k3, k4⟩ := sortF_ok (t := normT t false) (by omega)
        have hf := few_op (norm_few t g3 false)
        have hr := (right_iff _ _).1 k3
        have k5 := right_of k3 ((sort4 hr.op1 hr.op2).2 hf.1)
        exact ⟨g1, g2, g3, rfl, k1, k2, k5, sortF_mk k1 k2 k5 (by decide)⟩
theorem NormF_mk {t : Tm} (h1 : sortF t = (4, 0)) (h2 : (sortF (normT t false)).2 = 0) : NormF t = (normT t false, 0) := by
  unfold NormF
  rw [h1]
  simp [h2]
theorem IsF_iff (t : Tm) : IsF t = true ↔ sortF t = (4, 0) ∧ fewT t = true := by
  unfold IsF
  simp only [Bool.and_eq_true, decide_eq_true_eq]
  constructor
  · rintro ⟨⟨h1, h2⟩, h3⟩; exact ⟨by rw [← h1, ← h2], h3⟩
  · rintro ⟨h1, h2⟩; rw [h1]; exact ⟨⟨rfl, rfl⟩, h2⟩
/-- NormAgain, where nothing is made -/
theorem again_no {t : Tm} (h : (NormF t).2 ≠ 0) : IsF t = false := by
  cases hi : IsF t
  · rfl
  · obtain ⟨h1, h2⟩ := (IsF_iff t).1 hi
    obtain ⟨g1, g2, g3⟩ := sortF_bool (t := t) (by rw [h1]) (by rw [h1])
    have e := few_norm t g3 h2
    exact absurd (by rw [NormF_mk h1 (by rw [e, h1])]) h
theorem again_yes {t : Tm} (h : (NormF t).2 = 0) : IsF (NormF t).1 = true ∧ NormF (NormF t).1 = ((NormF t).1, 0) ∧ (IsF t = true → (NormF t).1 = t) := by
  obtain ⟨g1, g2, g3, e, k1, k2, k3, k4⟩ := NormF_ok h
  rw [e]
  have hf := norm_few t g3 false
  have e2 : normT (normT t false) false = normT t false := norm_norm t g3 false false
  refine ⟨(IsF_iff _).2 ⟨k4, hf⟩, ?_, fun hi => few_norm t g3 ((IsF_iff t).1 hi).2⟩
  rw [NormF_mk k4 (by rw [e2, k4]), e2]
theorem right_not {t : Tm} (h : rightT t 4 = true) : rightT (mk 18 [t]) 4 = true := by
  rw [right_iff]
  refine ⟨show (1 : Int) ≤ 18 by decide, show (18 : Int) ≤ 28 by decide, .inr rfl, fun h => (by cases h), fun _ => rfl, fun _ => rfl, fun _ => rfl, fun i hi => ?_⟩
  cases i with
  | zero => exact h
  | succ i => exact absurd hi (by simp [mk, Tm.a])
theorem size_mk1 (op : Int) (t : Tm) : (mk op [t]).size = t.size + 1 := by unfold mk; rw [Tm.size_mk, Tm.sizeL_cons, Tm.sizeL_nil]
theorem turned_same {t : Tm} (h : rightT t 4 = true) (h1 : t.size < 1000) (h2 : t.dep ≤ 90) : NormF (mk 18 [mk 18 [t]]) = NormF t := by
  have e1 : sortF t = (4, 0) := sortF_mk (by omega) (by omega) h (by decide)
  have e2 : sortF (mk 18 [mk 18 [t]]) = (4, 0) := sortF_mk (by rw [size_mk1, size_mk1]; omega) (by rw [dep_mk1, dep_mk1]; omega) (right_not (right_not h)) (by decide)
  unfold NormF
  rw [e1, e2, normT_not, normT_not]; rfl
theorem turned_again {t : Tm} (h : rightT t 4 = true) (h2 : t.dep ≤ 90) (h3 : (NormF t).2 = 0) (h4 : (NormF (mk 18 [t])).2 = 0) (h5 : (NormF t).1.size < 2000) : NormF (mk 18 [(NormF t).1]) = NormF (mk 18 [t]) := by
  obtain ⟨_, _, _, e, k1, k2, k3, _⟩ := NormF_ok h3
  obtain ⟨_, _, _, e', _, _, _, k4⟩ := NormF_ok h4
  rw [e] at h5 ⊢
  have hd := norm_dep t h false
  have e1 : sortF (mk 18 [normT t false]) = (4, 0) := sortF_mk (by rw [size_mk1]; omega) (by rw [dep_mk1]; omega) (right_not k3) (by decide)
  have e2 : normT (mk 18 [normT t false]) false = normT (mk 18 [t]) false := by rw [normT_not, normT_not, norm_norm t h]; rfl
  rw [NormF_mk e1 (by rw [e2, k4]), e2, Prod.ext_iff]
  exact ⟨e'.symm, h4.symm⟩
end Go.Proofs.YtaigilchnadmpaaGreatDoor
