/- Contracts: the law NormNames. -/
import Derived.Test.YtlonmopppgadgaaDoorC16
import Derived.Test.YtlonmopppgadgaaDoorC7
import Derived.Test.YtlonmopppgadgaaDoorN2
set_option maxRecDepth 100000
set_option linter.unusedVariables false
namespace Go.Proofs.YtlonmopppgadgaaDoor
open Go Go.V
theorem norm_names {t : Tm} (h : (NormF t).2 = 0) : NamesF (NormF t).1 = NamesF t := by
  obtain ⟨g1, g2, g3, e, k1, k2, k3, k4⟩ := NormF_ok h
  have h4 : sortF t = (4, 0) := sortF_mk g1 g2 g3 (by decide)
  rw [e]
  unfold NamesF
  rw [k4, h4, if_neg (by decide), if_neg (by decide)]
  exact namesT_eq fun z => norm_coll t g3 false z
theorem c16 (t : Tm) : AFn pr 16 [t.d] [] (.ret (.b true)) := by
  refine AFn.of (s16 ?_)
  unfold A16
  (refine a_bxv fun z1 => ?_; refine a_call0 (c17) ?_; (apply a_ldA 0; exact rfl; exact rfl); refine a_call0 (c18 _) ?_; (apply a_ext; exact rfl); (apply a_ext; exact rfl); refine a_bx fun z2 => ?_; refine a_stA 0 rfl rfl rfl rfl ?_; refine a_neq ?_)
  refine a_cnd (fun h1 => ?_) (fun h1 => ?_)
  · rfl
  have e := norm_names (t := t) (by omega)
  have cn := c38 (NormF t).1
  rw [e] at cn
  have hlen := namesF_len t
  ((apply a_ldA 1; exact rfl; exact rfl); refine a_call0 (c38 _) ?_; (apply a_ldA 0; exact rfl; exact rfl); refine a_call0 cn ?_; refine a_lenL ?_; refine a_lenL ?_; refine a_neq ?_; refine a_cndF (by first | omega | assumption | decide) ?_)
  generalize NamesF t = l at *
  refine a_lp (σ := Nat) (fun i => [.i i]) (fun _ => []) (fun i => i ≤ l.length) (fun i => l.length - i) 0 (by first | exact Gl.refl _ _ | exact Gl.drop (by repeat (first | exact List.Sublist.refl _ | exact List.Sublist.slnil | apply List.Sublist.cons_cons | apply List.Sublist.cons))) (Nat.zero_le _) ?_
  rintro i K hi hK
  dsimp only [aix0, aix1, aix2, aix3, aix4, aix5, aix6, aix7, aix8]
  (refine a_lenL ?_; refine a_lss ?_)
  refine a_cnd (fun h => ?_) (fun h => ?_)
  · have hlt : i < l.length := by rw [List.length_map] at h; omega
    (refine Nm.a_idx i hlt ?_; refine Nm.a_f0 ?_; refine Nm.a_ld ?_; refine Nm.a_idx i hlt ?_; refine Nm.a_f0 ?_; refine Nm.a_ld ?_; refine a_neqS ?_)
    refine a_cnd (fun h => absurd rfl h) (fun _ => ?_)
    (refine Nm.a_idx i hlt ?_; refine Nm.a_f1 ?_; refine a_fldp ?_; (apply a_ld1p; exact rfl); refine Nm.a_idx i hlt ?_; refine Nm.a_f1 ?_; refine a_fldp ?_; (apply a_ld1p; exact rfl); refine a_neq ?_; refine a_cndF (by first | omega | assumption | decide) ?_; refine a_add (by first | omega | assumption | decide) (by first | omega | assumption | decide) ?_)
    try refine a_cnd (fun h => absurd rfl h) (fun _ => ?_)
    skip
    exact hK (i + 1) _ _ (by omega) (by omega) (by first | exact Gl.refl _ _ | exact Gl.drop (by repeat (first | exact List.Sublist.refl _ | exact List.Sublist.slnil | apply List.Sublist.cons_cons | apply List.Sublist.cons)))
  · rfl
end Go.Proofs.YtlonmopppgadgaaDoor
