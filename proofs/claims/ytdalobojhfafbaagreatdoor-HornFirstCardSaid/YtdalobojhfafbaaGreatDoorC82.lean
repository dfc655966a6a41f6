/- Contracts of layer 19: HornFirst. -/
import Derived.Test.YtdalobojhfafbaaGreatDoorC80
import Derived.Test.YtdalobojhfafbaaGreatDoorC64
import Derived.Test.YtdalobojhfafbaaGreatDoorM35
set_option maxRecDepth 100000
set_option linter.unusedVariables false
namespace Go.Proofs.YtdalobojhfafbaaGreatDoor
open Go Go.V
theorem c10 (p : Pr) (q : Tm) (nodes : Int) : AFn pr 10 [p.d, q.d, .i nodes] [] (.ret (.b true)) := by
  refine AFn.small fun hsm => AFn.ofGe (s10 ?_)
  unfold A10
  refine a_bxv fun z1 => ?_
  refine a_bxv fun z2 => ?_
  refine a_call0 c29 ?_
  refine a_andTo 7 (by decide) fun m hm => ?_
  have hF := c30 p q
  have hval := fun S (h : NewF p (1 + (m : Int)) = .ok S) he => first_value h (q := q) he
  have hE1 := c31 (FirstF p q).1 ⟨1 + (m : Int), []⟩
  have hE2 := fun w => c31 q w
  generalize FirstF p q = f at *
  obtain ⟨⟨fo, fs, fn, fa⟩, fe⟩ := f
  obtain ⟨qo, qs, qn, qa⟩ := q
  dsimp only at hF hval hE1
  (refine a_add (by first | omega | assumption | decide) (by first | omega | assumption | decide) ?_; (apply a_ldA 1; exact rfl; exact rfl); (apply a_ldA 0; exact rfl; exact rfl); refine a_call0 hF ?_; (apply a_ext; exact rfl); (apply a_ext; exact rfl); refine a_bx fun z3 => ?_; refine a_stA 0 rfl rfl rfl rfl ?_; (apply a_ldA 2; exact rfl; exact rfl))
  refine new_call (M := [⟨z3, (Tm.mk fo fs fn fa).cs, .box⟩, ⟨z2, (Tm.mk qo qs qn qa).cs, .box⟩, ⟨z1, p.cs, .box⟩]) (List.Perm.refl _) (fun e he => ?_) fun S bs L0 he r0 => ?_
  · (apply a_ext; exact rfl); (apply a_ext; exact rfl)
    apply a_jn0
    intro J
    refine a_neq ?_
    refine a_cnd (fun q => ?_) (fun q => ?_)
    · exact ge_drop _ _
    · refine a_neq ?_
      refine a_cnd (fun q => ?_) (fun q => ?_)
      · exact ge_drop _ _
      · refine a_eqNil ?_
        (refine a_cndbT rfl ?_)
        exact ge_drop _ _
  · obtain ⟨hp, h1, h2, hS, hl, hin⟩ := New_ok he
    replace hval := hval S he
    (apply a_ext; exact rfl); (apply a_ext; exact rfl)
    refine a_jn (σ := Unit) (fun _ => []) (fun _ => L0 ++ [⟨z3, (Tm.mk fo fs fn fa).cs, .box⟩, ⟨z2, (Tm.mk qo qs qn qa).cs, .box⟩, ⟨z1, p.cs, .box⟩]) (fun _ => fe = 0) ?_ fun J hJ => ?_
    · rintro _ rfl
      replace hval := hval rfl
      have hE3 := hE2 S.w
      rw [← hval] at hE3
      generalize evalF (Tm.mk fo fs fn fa) ⟨1 + (m : Int), []⟩ = v at *
      obtain ⟨⟨vs, vn, vb, vl⟩, ve⟩ := v
      have hSame := same_self ⟨vs, vn, vb, vl⟩
      dsimp only at hE1 hE3
      ((apply a_ldrA 0; exact rfl; exact rfl); refine a_bldW0 rfl rfl ?_; refine a_call0 hE1 ?_; (apply a_ext; exact rfl); (apply a_ext; exact rfl); refine a_bx fun z4 => ?_; refine a_stA 0 rfl rfl rfl rfl ?_; (refine a_cN ?_; apply a_ldrA 1; exact rfl; exact rfl); refine a_callSR (world_at [_] _ hS hp r0) ?_; refine a_callS0 hE3 ?_; (apply a_ext; exact rfl); (apply a_ext; exact rfl); refine a_bx fun z5 => ?_; refine a_stA 0 rfl rfl rfl rfl ?_; refine a_cndbT rfl ?_; (apply a_ldA 1; exact rfl; exact rfl); (apply a_ldA 0; exact rfl; exact rfl); refine a_call0 hSame ?_; refine a_cndbT rfl ?_; refine a_eql ?_)
      exact ge_of (ret_b (decide_eq_true rfl))
    · refine a_neq ?_
      refine a_cnd (fun q => ?_) (fun q => ?_)
      · exact ge_drop _ _
      · refine a_neq ?_
        refine a_cndF (by decide) ?_
        refine a_eqOwn ?_
        refine a_cndbF rfl ?_
        exact hJ () _ _ (by omega) (Gl.refl _ _)
end Go.Proofs.YtdalobojhfafbaaGreatDoor
