/- Contracts: the law TermTells. -/
import Derived.Test.YtokpeggkofjclaaGreatDoorC21
import Derived.Test.YtokpeggkofjclaaGreatDoorC9
import Derived.Test.YtokpeggkofjclaaGreatDoorC4
set_option maxRecDepth 100000
set_option linter.unusedVariables false
namespace Go.Proofs.YtokpeggkofjclaaGreatDoor
open Go Go.V
theorem c35 (t : Tm) : AFn pr 35 [t.d] [] (.ret (.row 5 ((NamesF t).map Nm.cr))) := by
  refine AFn.ofGe (s35 ?_)
  unfold A35
  (refine a_bxv fun z1 => ?_; (apply a_ldA 0; exact rfl; exact rfl); refine a_call0 (c34 _) ?_; (apply a_ext; exact rfl); (apply a_ext; exact rfl); refine a_neq ?_)
  refine a_cnd (fun h1 => ?_) (fun h1 => ?_)
  · have e : NamesF t = [] := by unfold NamesF; rw [if_pos h1]
    rw [e]
    exact ge_nilrow 5 _
  have hc := Classical.not_not.1 h1
  obtain ⟨hsz, _, hr, _⟩ := sortF_ok hc
  have e : NamesF t = canonN ([] ++ collT t) := by unfold NamesF namesT; rw [if_neg h1]; rfl
  rw [e]
  have hw := c81 t (l := []) hr .nil (by simp only [List.length_nil]; omega)
  have hw2 : AFn pr 81 [.nil, t.d] [] (.ret (.row 5 ((canonN ([] ++ collT t)).map Nm.cr))) := ASpec.gl hw (Gl.nil 5 (.cons .hit (.cons (.refl _) .nil)) .nil)
  clear hw
  generalize canonN ([] ++ collT t) = m at hw2 ⊢
  ((apply a_ldA 0; exact rfl; exact rfl); refine a_call0 hw2 ?_)
  exact ge_gl (Gl.drop (List.nil_sublist _))
end Go.Proofs.YtokpeggkofjclaaGreatDoor
