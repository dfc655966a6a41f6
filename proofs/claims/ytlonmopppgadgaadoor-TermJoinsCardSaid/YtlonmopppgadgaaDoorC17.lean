/- Contracts: the law TermParts. -/
import Derived.Test.YtlonmopppgadgaaDoorC15
import Derived.Test.YtlonmopppgadgaaDoorN1
set_option maxRecDepth 100000
set_option linter.unusedVariables false
namespace Go.Proofs.YtlonmopppgadgaaDoor
open Go Go.V
theorem size_of {t : Tm} (h : t.size ≤ 2000) : sizT t 0 = t.size := by rw [sizT_min _ 0 (by omega) (by omega)]; omega
theorem deep_of {t : Tm} (h : t.dep ≤ 100) : deepT t 101 = t.dep := by rw [deepT_min _ 101 (by omega)]; omega
theorem c25r {t : Tm} (h : t.size ≤ 2000) : AFn pr 25 [t.d] [] (.ret (.i (t.size : Int))) := by
  have := c25 t
  rw [size_of h] at this; exact this
theorem c24r {t : Tm} (h : t.dep ≤ 100) : AFn pr 24 [t.d] [] (.ret (.i (t.dep : Int))) := by
  have := c24 t
  rw [deep_of h] at this; exact this
theorem kids_ok {t : Tm} {m : Int} (h : rightT t m = true) (hs : t.size ≤ 2000) (hd : t.dep ≤ 100) : ∀ x ∈ t.a, x.size ≤ 2000 ∧ x.dep ≤ 100 ∧ rightT x 0 = true ∧ (sortF x).2 = 0 := by
  intro x hx
  have h1 := Tm.size_mem hx
  have h2 := Tm.dep_mem hx
  rw [Tm.size_eq] at hs
  rw [Tm.dep_eq] at hd
  obtain ⟨i, hi, rfl⟩ := List.getElem_of_mem hx
  have h3 := right_any (((right_iff _ _).1 h).kids i hi)
  exact ⟨by omega, by omega, h3, by rw [sortF_eq, if_neg (by omega), if_pos h3]⟩
theorem c12 (t : Tm) : AFn pr 12 [t.d] [] (.ret (.b true)) := by
  refine AFn.of (s12 ?_)
  unfold A12
  (refine a_bxv fun z1 => ?_; refine a_call0 (c33) ?_; (apply a_ldA 0; exact rfl; exact rfl); refine a_call0 (c23 _) ?_; (apply a_ext; exact rfl); (apply a_ext; exact rfl); refine a_neq ?_)
  refine a_cnd (fun h1 => ?_) (fun h1 => ?_)
  · rfl
  obtain ⟨hs, hd, hr, _⟩ := sortF_ok (t := t) (by omega)
  have hk := kids_ok hr hs hd
  have hl := Tm.len_size t.a
  have hse := Tm.size_eq t
  have hde := Tm.dep_eq t
  skip
  refine a_lp (σ := Int × Int × Nat) (fun s => [.i s.1, .i s.2.1, .i s.2.2]) (fun _ => [⟨z1, t.cs, .box⟩]) (fun s => s.2.2 ≤ t.a.length ∧ (0 ≤ s.2.1 ∧ 0 ≤ s.1) ∧ s.1 + (Tm.sizeL (t.a.drop s.2.2) : Int) = t.size ∧ max s.2.1 (Tm.depL (t.a.drop s.2.2) : Int) = Tm.depL t.a) (fun s => t.a.length - s.2.2) (1, 0, 0) (by first | exact Gl.refl _ _ | exact Gl.drop (by repeat (first | exact List.Sublist.refl _ | exact List.Sublist.slnil | apply List.Sublist.cons_cons | apply List.Sublist.cons))) ⟨Nat.zero_le _, ⟨by simp only; omega, by simp only; omega⟩, by simp only [List.drop_zero]; omega, by simp only [List.drop_zero]; omega⟩ ?_
  rintro ⟨n, d, i⟩ K ⟨hi, ⟨hp, hp'⟩, hn, hm⟩ hK
  simp only at hi hp hp' hn hm
  dsimp only [aix0, aix1, aix2, aix3, aix4, aix5, aix6, aix7, aix8]
  (refine a_fld ?_; (apply a_ld1 0; exact rfl; exact rfl); refine Tm.a_len ?_; refine a_lss ?_)
  refine a_cnd (fun h => ?_) (fun h => ?_)
  · have hlt : i < t.a.length := by omega
    rw [List.drop_eq_getElem_cons hlt, Tm.sizeL_cons] at hn
    rw [List.drop_eq_getElem_cons hlt, Tm.depL_cons] at hm
    obtain ⟨k1, k2, k3, k4⟩ := hk _ (List.getElem_mem hlt)
    (refine a_fld ?_; (apply a_ld1 0; exact rfl; exact rfl); refine Tm.a_idx i hlt ?_; (apply a_ldAp; exact rfl); refine a_call0 (c23 _) ?_; (apply a_ext; exact rfl); (apply a_ext; exact rfl); refine a_neq ?_; refine a_cndF (by first | omega | assumption | decide) ?_; refine a_fld ?_; (apply a_ld1 0; exact rfl; exact rfl); refine Tm.a_idx i hlt ?_; (apply a_ldAp; exact rfl); refine a_call0 (c25r k1) ?_; refine a_add (by first | omega | assumption | decide) (by first | omega | assumption | decide) ?_; refine a_fld ?_; (apply a_ld1 0; exact rfl; exact rfl); refine Tm.a_idx i hlt ?_; (apply a_ldAp; exact rfl); refine a_call0 (c24r k2) ?_; refine a_max ?_; refine a_add (by first | omega | assumption | decide) (by first | omega | assumption | decide) ?_)
    exact hK (n + t.a[i].size, max d t.a[i].dep, i + 1) _ _ ⟨by simp only; omega, by simp only; omega, by simp only; omega, by simp only; omega⟩ (by simp only; omega) (by first | exact Gl.refl _ _ | exact Gl.drop (by repeat (first | exact List.Sublist.refl _ | exact List.Sublist.slnil | apply List.Sublist.cons_cons | apply List.Sublist.cons)))
  · rw [List.drop_eq_nil_of_le (by omega), Tm.sizeL_nil] at hn
    rw [List.drop_eq_nil_of_le (by omega), Tm.depL_nil] at hm
    have h5 : sameF t t = true := sameF_refl hd
    (refine a_cndbT rfl ?_; (apply a_ldA 0; exact rfl; exact rfl); refine a_call0 (c25r hs) ?_; refine a_eql ?_; refine a_cndT (by first | omega | assumption | decide) ?_; (apply a_ldA 0; exact rfl; exact rfl); refine a_call0 (c24r hd) ?_; refine a_add (by first | omega | assumption | decide) (by first | omega | assumption | decide) ?_; refine a_eql ?_; refine a_cndT (by first | omega | assumption | decide) ?_; (apply a_ldA 0; exact rfl; exact rfl); (apply a_ldA 0; exact rfl; exact rfl); refine a_call0 (c40 _ _) ?_)
    exact ret_b h5
end Go.Proofs.YtlonmopppgadgaaDoor
