/- NormValues: what norm makes has the same value. -/
import Derived.Test.YtlonmopppgadgaaDoorE3
import Derived.Test.YtlonmopppgadgaaDoorC7
import Derived.Test.YtlonmopppgadgaaDoorM6
set_option maxRecDepth 100000
set_option linter.unusedVariables false
namespace Go.Proofs.YtlonmopppgadgaaDoor
open Go Go.V
/-- both are, of one truth, or both are not -/
theorem eval_norm {t : Tm} {w : Wd} (hn : (NormF t).2 = 0) (hw : rightW w = true) :
    (decide ((evalF t w).2 = 0) = decide ((evalF (NormF t).1 w).2 = 0)) ∧ (evalF t w).1.b = (evalF (NormF t).1 w).1.b ∧ ((evalF t w).2 = 0 → (evalF t w).1.sort = 4 ∧ (evalF (NormF t).1 w).1.sort = 4) := by
  obtain ⟨k1, k2, hr, e, k3, k4, hr', hs'⟩ := NormF_ok hn
  have hs : sortF t = (4, 0) := sortF_mk k1 k2 hr (by decide)
  have key := norm_val hw t hr false
  rw [map_id] at key
  rw [e]
  unfold evalF
  rw [hs, hs', if_neg (by decide), if_neg (by rw [hw]; decide), if_neg (by decide), if_neg (by rw [hw]; decide)]
  cases h1 : evV w t with
  | error x =>
    rw [h1] at key
    have x1 := evV_err t x h1
    cases h2 : evV w (normT t false) with
    | error y =>
      have y1 := evV_err _ y h2
      refine ⟨?_, rfl, fun h => ?_⟩
      · show decide (x = 0) = decide (y = 0)
        rw [decide_eq_false (by omega), decide_eq_false (by omega)]
      · have : x = 0 := h
        omega
    | ok u => rw [h2] at key; cases key
  | ok v =>
    rw [h1] at key
    cases h2 : evV w (normT t false) with
    | error y => rw [h2] at key; cases key
    | ok u =>
      rw [h2] at key
      refine ⟨rfl, ?_, fun _ => ⟨(evV_ok hw hr (by decide) h1).sort, (evV_ok hw hr' (by decide) h2).sort⟩⟩
      injection key with key
      exact key.symm
theorem c10 (t : Tm) (w : Wd) : AFn pr 10 [t.d, w.d] [] (.ret (.b true)) := by
  refine AFn.of (s10 ?_)
  unfold A10
  (refine a_bxv fun z1 => ?_; refine a_bxv fun z2 => ?_; refine a_call0 (c17) ?_; (apply a_ldA 1; exact rfl; exact rfl); refine a_call0 (c18 _) ?_; (apply a_ext; exact rfl); (apply a_ext; exact rfl); refine a_bx fun z3 => ?_; refine a_stA 0 rfl rfl rfl rfl ?_)
  refine a_jn (σ := Unit) (fun _ => []) (fun _ => [⟨z3, (NormF t).1.cs, .box⟩, ⟨z2, w.cs, .box⟩, ⟨z1, t.cs, .box⟩]) (fun _ => (NormF t).2 = 0 ∧ rightW w = true) ?_ fun J hJ => ?_
  · rintro _ ⟨hn, hw⟩
    obtain ⟨e1, e2, e3⟩ := eval_norm hn hw
    ((apply a_ldA 2; exact rfl; exact rfl); (apply a_ldA 1; exact rfl; exact rfl); refine a_call0 (c27 _ _) ?_; (apply a_ext; exact rfl); (apply a_ext; exact rfl); refine a_bx fun z4 => ?_; refine a_stA 0 rfl rfl rfl rfl ?_; (apply a_ldA 1; exact rfl; exact rfl); (apply a_ldA 2; exact rfl; exact rfl); refine a_call0 (c27 _ _) ?_; (apply a_ext; exact rfl); (apply a_ext; exact rfl); refine a_bx fun z5 => ?_; refine a_stA 0 rfl rfl rfl rfl ?_; refine a_cndbT rfl ?_; refine a_eql ?_; refine a_eql ?_; refine a_eqlB ?_; refine a_cndT (by first | omega | assumption | decide) ?_; refine a_fld ?_; (apply a_ld1 1; exact rfl; exact rfl); refine a_fld ?_; (apply a_ld1 0; exact rfl; exact rfl); refine a_eqlB ?_; refine a_cndT (by first | omega | assumption | decide) ?_; refine a_neq ?_)
    refine a_jn (σ := Unit) (fun _ => [.b true]) (fun _ => [⟨z5, (evalF (NormF t).1 w).1.cs, .box⟩, ⟨z4, (evalF t w).1.cs, .box⟩, ⟨z3, (NormF t).1.cs, .box⟩, ⟨z2, w.cs, .box⟩, ⟨z1, t.cs, .box⟩]) (fun _ => True) ?_ fun J2 hJ2 => ?_
    · rintro _ _
      rfl
    · skip
      refine a_cnd (fun h1 => ?_) (fun h1 => ?_)
      · exact hJ2 () _ _ trivial (by first | exact Gl.refl _ _ | exact Gl.drop (by repeat (first | exact List.Sublist.refl _ | exact List.Sublist.slnil | apply List.Sublist.cons_cons | apply List.Sublist.cons)))
      · obtain ⟨s1, s2⟩ := e3 (Classical.not_not.1 h1)
        (refine a_fld ?_; (apply a_ld1 1; exact rfl; exact rfl); refine a_eql ?_; (apply a_jnX; intro J hJ); refine a_cndT (by first | omega | assumption | decide) ?_; refine a_fld ?_; (apply a_ld1 0; exact rfl; exact rfl); refine a_eql ?_; exact hJ; dsimp only [aix0, aix1, aix2, aix3, aix4, aix5, aix6, aix7, aix8])
        rw [decide_eq_true s2]
        exact hJ2 () _ _ trivial (by first | exact Gl.refl _ _ | exact Gl.drop (by repeat (first | exact List.Sublist.refl _ | exact List.Sublist.slnil | apply List.Sublist.cons_cons | apply List.Sublist.cons)))
  · (refine a_neq ?_)
    refine a_cnd (fun h1 => ?_) (fun h1 => ?_)
    · rfl
    ((apply a_ldA 1; exact rfl; exact rfl); refine a_call0 (c29 _) ?_; refine a_not ?_)
    cases hw : rightW w with
    | false => rfl
    | true => exact hJ () _ _ ⟨Classical.not_not.1 h1, hw⟩ (by first | exact Gl.refl _ _ | exact Gl.drop (by repeat (first | exact List.Sublist.refl _ | exact List.Sublist.slnil | apply List.Sublist.cons_cons | apply List.Sublist.cons)))
end Go.Proofs.YtlonmopppgadgaaDoor
