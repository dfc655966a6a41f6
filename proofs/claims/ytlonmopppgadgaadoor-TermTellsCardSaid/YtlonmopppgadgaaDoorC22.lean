/- Contracts: the law TermTells. -/
import Derived.Test.YtlonmopppgadgaaDoorC21
import Derived.Test.YtlonmopppgadgaaDoorC8
import Derived.Test.YtlonmopppgadgaaDoorC2
set_option maxRecDepth 100000
set_option linter.unusedVariables false
namespace Go.Proofs.YtlonmopppgadgaaDoor
open Go Go.V
theorem c39 (t : Tm) : AFn pr 39 [t.d] [] (.ret (.row 5 ((NamesF t).map Nm.cr))) := by
  refine AFn.ofGe (s39 ?_)
  unfold A39
  (refine a_bxv fun z1 => ?_; (apply a_ldA 0; exact rfl; exact rfl); refine a_call0 (c34 _) ?_; (apply a_ext; exact rfl); (apply a_ext; exact rfl); refine a_neq ?_)
  refine a_cnd (fun h1 => ?_) (fun h1 => ?_)
  · have e : NamesF t = [] := by unfold NamesF; rw [if_pos h1]
    rw [e]
    exact ge_nilrow 5 _
  have hc := Classical.not_not.1 h1
  obtain ⟨hsz, _, hr, _⟩ := sortF_ok hc
  have e : NamesF t = canonN ([] ++ collT t) := by unfold NamesF namesT; rw [if_neg h1]; rfl
  rw [e]
  have hw := c69 t (l := []) hr .nil (by simp only [List.length_nil]; omega)
  have hw2 : AFn pr 69 [.nil, t.d] [] (.ret (.row 5 ((canonN ([] ++ collT t)).map Nm.cr))) := ASpec.gl hw (Gl.nil 5 (.cons .hit (.cons (.refl _) .nil)) .nil)
  clear hw
  generalize canonN ([] ++ collT t) = m at hw2 ⊢
  ((apply a_ldA 0; exact rfl; exact rfl); refine a_call0 hw2 ?_)
  exact ge_gl (Gl.drop (List.nil_sublist _))
theorem c37 {l : List Nm} (hl : l.length ≤ 1000000) : AFn pr 37 [.row 5 (l.map Nm.cr), .row 5 (l.map Nm.cr)] [] (.ret (.b true)) := by
  refine AFn.of (s37 ?_)
  unfold A37
  (refine a_lenM ?_; refine a_lenM ?_; refine a_neq ?_; refine a_cndF (by first | omega | assumption | decide) ?_)
  refine a_lp (σ := Nat) (fun i => [.i i]) (fun _ => []) (fun i => i ≤ l.length) (fun i => l.length - i) 0 (by first | exact Gl.refl _ _ | exact Gl.drop (by repeat (first | exact List.Sublist.refl _ | exact List.Sublist.slnil | apply List.Sublist.cons_cons | apply List.Sublist.cons))) (Nat.zero_le _) ?_
  rintro i K hi hK
  dsimp only [aix0, aix1, aix2, aix3, aix4, aix5, aix6, aix7, aix8]
  (refine a_lenM ?_; refine a_lss ?_)
  refine a_cnd (fun c1 => ?_) (fun c1 => ?_)
  · have hi1 : i < l.length := by omega
    have hs : sameF (Nm.tm l[i]) (Nm.tm l[i]) = true := sameF_refl (by rw [Nm.tm_dep]; omega)
    have hc := c20 (Nm.tm l[i]) (Nm.tm l[i])
    rw [hs] at hc
    (refine Nm.a_idx i hi1 ?_; refine Nm.a_f0 ?_; refine Nm.a_ld ?_; refine Nm.a_idx i hi1 ?_; refine Nm.a_f0 ?_; refine Nm.a_ld ?_; refine a_neqS ?_)
    refine a_cnd (fun h => absurd rfl h) (fun _ => ?_)
    (refine Nm.a_idx i hi1 ?_; refine Nm.a_f1 ?_; (apply a_ldAp; exact rfl); refine Nm.a_idx i hi1 ?_; refine Nm.a_f1 ?_; (apply a_ldAp; exact rfl); refine a_callS0 hc ?_; refine a_not ?_; refine a_cndbF rfl ?_; refine a_add (by first | omega | assumption | decide) (by first | omega | assumption | decide) ?_)
    exact hK (i + 1) _ _ (by omega) (by omega) (by first | exact Gl.refl _ _ | exact Gl.drop (by repeat (first | exact List.Sublist.refl _ | exact List.Sublist.slnil | apply List.Sublist.cons_cons | apply List.Sublist.cons)))
  · rfl
theorem c11 (t u : Tm) (q : ByteArray) : AFn pr 11 [t.d, u.d, .s q] [] (.ret (.b true)) := by
  refine AFn.of (s11 ?_)
  unfold A11
  have e1 : sizT t 0 = 2001 - leftT t 2001 := by rw [sizT_min _ 0 (by omega) (by omega), leftT_min _ 2001 (by omega)]; omega
  have e2 : deepT t 101 = rdeepT t 101 := deep_eq t 101 (by omega)
  have hs := c37 (l := NamesF t) (by have := namesF_len t; omega)
  (refine a_bxv fun z1 => ?_; refine a_bxv fun z2 => ?_; refine a_call0 (c33) ?_; (apply a_ldA 1; exact rfl; exact rfl); refine a_call0 (c23 _) ?_; (apply a_ext; exact rfl); (apply a_ext; exact rfl); (apply a_ldA 1; exact rfl; exact rfl); refine a_call0 (c34 _) ?_; (apply a_ext; exact rfl); (apply a_ext; exact rfl); refine a_cndbT rfl ?_; refine a_eql ?_; refine a_cndT (by first | omega | assumption | decide) ?_; refine a_eql ?_; refine a_cndT (by first | omega | assumption | decide) ?_; (apply a_ldA 1; exact rfl; exact rfl); refine a_callS0 (c25 _) ?_; (apply a_ldA 1; exact rfl; exact rfl); refine a_callS0 (c35 _) ?_; refine a_eql ?_; refine a_cndT (by first | omega | assumption | decide) ?_; (apply a_ldA 1; exact rfl; exact rfl); refine a_callS0 (c24 _) ?_; (apply a_ldA 1; exact rfl; exact rfl); refine a_callS0 (c36 _) ?_; refine a_eql ?_; refine a_cndT (by first | omega | assumption | decide) ?_; (apply a_ldA 1; exact rfl; exact rfl); refine a_callS0 (c38 _) ?_; (apply a_ldA 1; exact rfl; exact rfl); refine a_callS0 (c39 _) ?_)
  refine a_callS0 hs ?_
  (refine a_cndbT rfl ?_; (apply a_ldA 1; exact rfl; exact rfl); (apply a_ldA 0; exact rfl; exact rfl); refine a_callS0 (c40 _ _) ?_; (apply a_ldA 1; exact rfl; exact rfl); (apply a_ldA 0; exact rfl; exact rfl); refine a_callS0 (c20 _ _) ?_; refine a_eqlB ?_)
  refine a_cndbT (beq_self_eq_true _) ?_
  (refine a_callS0 (c41) ?_; refine a_callS0 (c42) ?_; refine a_eqlB ?_)
  exact ret_b (beq_self_eq_true _)
end Go.Proofs.YtlonmopppgadgaaDoor
