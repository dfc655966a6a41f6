/- EvalLaws: sets and bools obey their laws. -/
import Derived.Test.YtlonmopppgadgaaDoorE3
import Derived.Test.YtlonmopppgadgaaDoorM7
import Derived.Test.YtlonmopppgadgaaDoorC4
set_option maxRecDepth 100000
set_option linter.unusedVariables false
namespace Go.Proofs.YtlonmopppgadgaaDoor
open Go Go.V
theorem c9 (x y : Tm) (w : Wd) : AFn pr 9 [x.d, y.d, w.d] [] (.ret (.b true)) := by
  refine AFn.of (s9 ?_)
  unfold A9
  (refine a_bxv fun z1 => ?_; refine a_bxv fun z2 => ?_; refine a_bxv fun z3 => ?_; refine a_call0 (c26) ?_; (apply a_ldA 2; exact rfl; exact rfl); refine a_call0 (c23 _) ?_; (apply a_ext; exact rfl); (apply a_ext; exact rfl); (apply a_ldA 1; exact rfl; exact rfl); refine a_call0 (c23 _) ?_; (apply a_ext; exact rfl); (apply a_ext; exact rfl))
  refine a_jn (σ := Unit) (fun _ => []) (fun _ => [⟨z3, w.cs, .box⟩, ⟨z2, y.cs, .box⟩, ⟨z1, x.cs, .box⟩]) (fun _ => (sortF x).2 = 0 ∧ (sortF y).2 = 0 ∧ (sortF x).1 = (sortF y).1 ∧ rightW w = true ∧ x.size ≤ 200 ∧ y.size ≤ 200 ∧ x.dep ≤ 80 ∧ y.dep ≤ 80) ?_ fun J hJ => ?_
  · rintro _ ⟨h1, h2, h3, h4, h5, h6, h7, h8⟩
    have le := law_eval (w := w) h4 h1 h2 h3 h5 h6 h7 h8
    ((apply a_ldA 2; exact rfl; exact rfl); (apply a_ldA 0; exact rfl; exact rfl); refine a_call0 (c27 _ _) ?_; (apply a_ext; exact rfl); (apply a_ext; exact rfl); refine a_bx fun z4 => ?_; refine a_stA 0 rfl rfl rfl rfl ?_; (apply a_ldA 2; exact rfl; exact rfl); (apply a_ldA 1; exact rfl; exact rfl); refine a_call0 (c27 _ _) ?_; (apply a_ext; exact rfl); (apply a_ext; exact rfl); refine a_bx fun z5 => ?_; refine a_stA 0 rfl rfl rfl rfl ?_)
    refine a_jn (σ := Unit) (fun _ => []) (fun _ => [⟨z5, (evalF y w).1.cs, .box⟩, ⟨z4, (evalF x w).1.cs, .box⟩, ⟨z3, w.cs, .box⟩, ⟨z2, y.cs, .box⟩, ⟨z1, x.cs, .box⟩]) (fun _ => (evalF x w).2 = 0 ∧ (evalF y w).2 = 0) ?_ fun J2 hJ2 => ?_
    · rintro _ ⟨ex, ey⟩
      obtain ⟨s1, s2, ev⟩ := le ex ey
      ((apply a_ldA 4; exact rfl; exact rfl); (apply a_ldA 3; exact rfl; exact rfl); refine a_rowS2 rfl ?_; refine a_bldT0 rfl rfl ?_; refine a_bx fun z6 => ?_; refine a_stA 0 rfl rfl rfl rfl ?_)
      refine a_jn (σ := Unit) (fun _ => []) (fun _ => [⟨z6, (lawT x y (sortF x).1).cs, .box⟩, ⟨z3, w.cs, .box⟩, ⟨z1, x.cs, .box⟩]) (fun _ => True) ?_ fun J3 hJ3 => ?_
      · rintro _ _
        have q1 : sameF x x = true := sameF_refl (by omega)
        have q2 : (evalF (lawT x y (sortF x).1) w).2 = 0 := by rw [ev]
        have q3 : (evalF (lawT x y (sortF x).1) w).1.b = true := by rw [ev]
        ((apply a_ldA 0; exact rfl; exact rfl); (apply a_ldA 1; exact rfl; exact rfl); refine a_call0 (c27 _ _) ?_; (apply a_ext; exact rfl); (apply a_ext; exact rfl); refine a_bx fun z7 => ?_; refine a_stA 0 rfl rfl rfl rfl ?_; refine a_cndbT rfl ?_; refine a_eql ?_; refine a_cndT (by first | omega | assumption | decide) ?_; refine a_fld ?_; (apply a_ld1 0; exact rfl; exact rfl); refine a_cndbT (by first | omega | assumption | decide) ?_; (apply a_ldA 3; exact rfl; exact rfl); (apply a_ldA 3; exact rfl; exact rfl); refine a_call0 (c20 _ _) ?_)
        rw [q1]
      · (refine a_eql ?_)
        refine a_cnd (fun c1 => ?_) (fun c1 => ?_)
        · have hl : lawT x y (sortF x).1 = mk 24 [mk 4 [mk 3 [mk 11 [x, y]], mk 3 [mk 12 [x, y]]], mk 4 [mk 3 [x], mk 3 [y]]] := by rw [c1]; rfl
          rw [hl] at hJ3
          (refine a_bldT rfl rfl ?_; refine a_rowS1 rfl ?_; refine a_bldT rfl rfl ?_; refine a_bldT rfl rfl ?_; refine a_rowS1 rfl ?_; refine a_bldT rfl rfl ?_; refine a_rowS2 rfl ?_; refine a_bldT rfl rfl ?_; refine a_bx fun z7 => ?_; refine a_stA 0 rfl rfl rfl rfl ?_; (apply a_ldA 6; exact rfl; exact rfl); refine a_rowS1 rfl ?_; refine a_bldT rfl rfl ?_; (apply a_ldA 5; exact rfl; exact rfl); refine a_rowS1 rfl ?_; refine a_bldT rfl rfl ?_; refine a_rowS2 rfl ?_; refine a_bldT rfl rfl ?_; refine a_bx fun z8 => ?_; refine a_stA 0 rfl rfl rfl rfl ?_; (apply a_ldA 1; exact rfl; exact rfl); (apply a_ldA 0; exact rfl; exact rfl); refine a_rowS2 rfl ?_; refine a_bldT rfl rfl ?_; refine a_stA 2 rfl rfl rfl rfl ?_)
          exact hJ3 () _ _ trivial (by first | exact Gl.refl _ _ | exact Gl.drop (by repeat (first | exact List.Sublist.refl _ | exact List.Sublist.slnil | apply List.Sublist.cons_cons | apply List.Sublist.cons)))
        · (refine a_eql ?_)
          refine a_cnd (fun c2 => ?_) (fun c2 => ?_)
          · have hl : lawT x y (sortF x).1 = mk 19 [mk 21 [mk 20 [mk 18 [x], y], mk 21 [x, y]], mk 21 [mk 21 [x, y], mk 20 [mk 18 [x], y]]] := by rw [c2]; rfl
            rw [hl] at hJ3
            ((apply a_ldA 5; exact rfl; exact rfl); refine a_rowS1 rfl ?_; refine a_bldT rfl rfl ?_; (apply a_ldA 4; exact rfl; exact rfl); refine a_rowS2 rfl ?_; refine a_bldT rfl rfl ?_; refine a_bx fun z7 => ?_; refine a_stA 0 rfl rfl rfl rfl ?_; refine a_bldT rfl rfl ?_; refine a_bx fun z8 => ?_; refine a_stA 0 rfl rfl rfl rfl ?_; (apply a_ldA 1; exact rfl; exact rfl); (apply a_ldA 0; exact rfl; exact rfl); refine a_rowS2 rfl ?_; refine a_bldT rfl rfl ?_; (apply a_ldA 0; exact rfl; exact rfl); (apply a_ldA 1; exact rfl; exact rfl); refine a_rowS2 rfl ?_; refine a_bldT rfl rfl ?_; refine a_rowS2 rfl ?_; refine a_bldT rfl rfl ?_; refine a_stA 2 rfl rfl rfl rfl ?_)
            exact hJ3 () _ _ trivial (by first | exact Gl.refl _ _ | exact Gl.drop (by repeat (first | exact List.Sublist.refl _ | exact List.Sublist.slnil | apply List.Sublist.cons_cons | apply List.Sublist.cons)))
          · (refine a_eql ?_)
            refine a_cnd (fun c3 => ?_) (fun c3 => ?_)
            · have hl : lawT x y (sortF x).1 = mk 20 [mk 22 [x, y], mk 23 [y, x]] := by rw [c3]; rfl
              rw [hl] at hJ3
              (refine a_bldT rfl rfl ?_; (apply a_ldA 4; exact rfl; exact rfl); (apply a_ldA 5; exact rfl; exact rfl); refine a_rowS2 rfl ?_; refine a_bldT rfl rfl ?_; refine a_rowS2 rfl ?_; refine a_bldT rfl rfl ?_; refine a_stA 0 rfl rfl rfl rfl ?_)
              exact hJ3 () _ _ trivial (by first | exact Gl.refl _ _ | exact Gl.drop (by repeat (first | exact List.Sublist.refl _ | exact List.Sublist.slnil | apply List.Sublist.cons_cons | apply List.Sublist.cons)))
            · (refine a_eql ?_; refine a_cndT (by first | omega | assumption | decide) ?_; refine a_bldT rfl rfl ?_; refine a_bx fun z7 => ?_; refine a_stA 0 rfl rfl rfl rfl ?_; (apply a_ldA 6; exact rfl; exact rfl); (apply a_ldA 5; exact rfl; exact rfl); refine a_rowS1 rfl ?_; refine a_bldT rfl rfl ?_; refine a_rowS2 rfl ?_; refine a_bldT rfl rfl ?_; refine a_bx fun z8 => ?_; refine a_stA 0 rfl rfl rfl rfl ?_; (apply a_ldA 1; exact rfl; exact rfl); (apply a_ldA 0; exact rfl; exact rfl); refine a_rowS2 rfl ?_; refine a_bldT rfl rfl ?_; (apply a_ldA 0; exact rfl; exact rfl); (apply a_ldA 1; exact rfl; exact rfl); refine a_rowS2 rfl ?_; refine a_bldT rfl rfl ?_; refine a_rowS2 rfl ?_; refine a_bldT rfl rfl ?_; refine a_stA 2 rfl rfl rfl rfl ?_)
              have c4 : (sortF x).1 = 3 := by omega
              have hl : lawT x y (sortF x).1 = mk 19 [mk 21 [mk 28 [x, y], mk 25 [x, mk 10 [y]]], mk 21 [mk 25 [x, mk 10 [y]], mk 28 [x, y]]] := by rw [c4]; rfl
              rw [hl] at hJ3
              exact hJ3 () _ _ trivial (by first | exact Gl.refl _ _ | exact Gl.drop (by repeat (first | exact List.Sublist.refl _ | exact List.Sublist.slnil | apply List.Sublist.cons_cons | apply List.Sublist.cons)))
    · (refine a_neq ?_)
      refine a_cnd (fun k1 => ?_) (fun k1 => ?_)
      · rfl
      (refine a_neq ?_)
      refine a_cnd (fun k2 => ?_) (fun k2 => ?_)
      · rfl
      exact hJ2 () _ _ ⟨Classical.not_not.1 k1, Classical.not_not.1 k2⟩ (by first | exact Gl.refl _ _ | exact Gl.drop (by repeat (first | exact List.Sublist.refl _ | exact List.Sublist.slnil | apply List.Sublist.cons_cons | apply List.Sublist.cons)))
  · (refine a_neq ?_)
    refine a_cnd (fun k1 => ?_) (fun k1 => ?_)
    · rfl
    (refine a_neq ?_)
    refine a_cnd (fun k2 => ?_) (fun k2 => ?_)
    · rfl
    (refine a_neq ?_)
    refine a_cnd (fun k3 => ?_) (fun k3 => ?_)
    · rfl
    ((apply a_ldA 0; exact rfl; exact rfl); refine a_call0 (c29 _) ?_; refine a_not ?_)
    cases hw : rightW w with
    | false => rfl
    | true =>
      (refine a_cndbF rfl ?_; (apply a_ldA 2; exact rfl; exact rfl); refine a_call0 (c25 _) ?_; refine a_gtr ?_)
      refine a_cnd (fun k4 => ?_) (fun k4 => ?_)
      · rfl
      ((apply a_ldA 1; exact rfl; exact rfl); refine a_call0 (c25 _) ?_; refine a_gtr ?_)
      refine a_cnd (fun k5 => ?_) (fun k5 => ?_)
      · rfl
      ((apply a_ldA 2; exact rfl; exact rfl); refine a_call0 (c24 _) ?_; refine a_gtr ?_)
      refine a_cnd (fun k6 => ?_) (fun k6 => ?_)
      · rfl
      ((apply a_ldA 1; exact rfl; exact rfl); refine a_call0 (c24 _) ?_; refine a_gtr ?_)
      refine a_cnd (fun k7 => ?_) (fun k7 => ?_)
      · rfl
      rw [sizT_min _ 0 (by omega) (by omega)] at k4 k5
      rw [deepT_min _ 101 (by omega)] at k6 k7
      exact hJ () _ _ ⟨Classical.not_not.1 k1, Classical.not_not.1 k2, Classical.not_not.1 k3, hw, by omega, by omega, by omega, by omega⟩ (by first | exact Gl.refl _ _ | exact Gl.drop (by repeat (first | exact List.Sublist.refl _ | exact List.Sublist.slnil | apply List.Sublist.cons_cons | apply List.Sublist.cons)))
end Go.Proofs.YtlonmopppgadgaaDoor
