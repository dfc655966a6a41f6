/- Contracts: Norm, Is, and the laws NormAgain, NormTurned. -/
import Derived.Test.YtlonmopppgadgaaDoorC5
set_option maxRecDepth 100000
set_option linter.unusedVariables false
namespace Go.Proofs.YtlonmopppgadgaaDoor
open Go Go.V
theorem index_terms {g : Nat} {f : Tm → Bool} {a : List Tm} (hg : ∀ x ∈ a, AFn pr g [x.d] [] (.ret (.b (f x)))) :
    AFn pr 117 [.row 4 (Tm.rows a), .fn g [] []] [] (.ret (.i (idxF f a 0))) := by
  refine AFn.small fun hs => AFn.of (s117 ?_)
  rw [Smalls, Small, Tm.rows_len] at hs
  have hl := hs.1.1
  unfold A117
  (refine Tm.a_len ?_)
  refine a_lp (σ := Nat) (fun i => [.i i]) (fun _ => []) (fun i => i ≤ a.length ∧ idxF f (a.drop i) i = idxF f a 0) (fun i => a.length - i) 0 (by first | exact Gl.refl _ _ | exact Gl.drop (by repeat (first | exact List.Sublist.refl _ | exact List.Sublist.slnil | apply List.Sublist.cons_cons | apply List.Sublist.cons))) ⟨Nat.zero_le _, rfl⟩ ?_
  rintro i K ⟨hi, hd⟩ hK
  dsimp only [aix0, aix1, aix2, aix3, aix4, aix5, aix6, aix7, aix8]
  (refine a_lss ?_)
  refine a_cnd (fun h => ?_) (fun h => ?_)
  · have hlt : i < a.length := by omega
    rw [List.drop_eq_getElem_cons hlt, idxF] at hd
    refine Tm.a_idx i hlt ?_
    ((apply a_ldAp; exact rfl); refine a_cfW ?_)
    refine a_call0 (hg _ (List.getElem_mem hlt)) ?_
    refine a_cndb (fun h1 => ?_) (fun h1 => ?_)
    · rw [if_pos h1] at hd
      exact ret_i hd
    · rw [if_neg (by rw [h1]; simp)] at hd
      (refine a_add (by first | omega | assumption | decide) (by first | omega | assumption | decide) ?_)
      exact hK (i + 1) _ _ ⟨by omega, hd⟩ (by omega) (by first | exact Gl.refl _ _ | exact Gl.drop (by repeat (first | exact List.Sublist.refl _ | exact List.Sublist.slnil | apply List.Sublist.cons_cons | apply List.Sublist.cons)))
  · rw [List.drop_eq_nil_of_le (by omega), idxF] at hd
    exact ret_i hd
theorem contains_terms {g : Nat} {f : Tm → Bool} {a : List Tm} (hg : ∀ x ∈ a, AFn pr g [x.d] [] (.ret (.b (f x)))) :
    AFn pr 82 [.row 4 (Tm.rows a), .fn g [] []] [] (.ret (.b (a.any f))) := by
  refine AFn.of (s82 ?_)
  unfold A82
  refine a_call0 (index_terms hg) ?_
  (refine a_geq ?_)
  exact ret_b (idxF_any f a 0)
theorem c46 (t : Tm) : rightT t 4 = true → AFn pr 46 [t.d] [] (.ret (.b (fewT t))) := by
  induction t using Tm.ind' with
  | h t ih =>
    intro h
    have h1 : ∀ x ∈ t.a, rightT x 4 = true → AFn pr 83 [x.d] [] (.ret (.b (!fewT x))) := by
      intro x hx hr
      refine AFn.of (s83 ?_)
      unfold A83
      (refine a_bxv fun z1 => ?_; (apply a_ldA 0; exact rfl; exact rfl))
      refine a_call0 (ih x hx hr) ?_
      (refine a_not ?_)
      rfl
    clear ih
    revert h1
    refine bool_cases (P := fun t => (∀ x ∈ t.a, rightT x 4 = true → AFn pr 83 [x.d] [] (.ret (.b (!fewT x)))) → AFn pr 46 [t.d] [] (.ret (.b (fewT t)))) h ?_ ?_ ?_ ?_ ?_ ?_ ?_
    · intro nm n a _
      refine AFn.of (s46 ?_)
      unfold A46
      (refine a_bxv fun z1 => ?_; refine a_fld ?_; (apply a_ld1 0; exact rfl; exact rfl); (apply a_jnX; intro J hJ); refine a_eql ?_; refine a_cndbF rfl ?_; refine a_eql ?_; exact hJ; dsimp only [aix0, aix1, aix2, aix3, aix4, aix5, aix6, aix7, aix8]; refine a_cndbF rfl ?_; refine a_eql ?_; refine a_cndbF rfl ?_; refine a_eql ?_; refine a_cndbF rfl ?_; refine a_eql ?_; refine a_cndbF rfl ?_; refine a_eql ?_; refine a_cndbT rfl ?_; refine a_cndbT rfl ?_)
      rw [fewT]; rfl
    · intro op ho _
      refine AFn.of (s46 ?_)
      unfold A46
      rcases ho with rfl | rfl
      · (refine a_bxv fun z1 => ?_; refine a_fld ?_; (apply a_ld1 0; exact rfl; exact rfl); (apply a_jnX; intro J hJ); refine a_eql ?_; refine a_cndbF rfl ?_; refine a_eql ?_; exact hJ; dsimp only [aix0, aix1, aix2, aix3, aix4, aix5, aix6, aix7, aix8]; refine a_cndbF rfl ?_; refine a_eql ?_; refine a_cndbF rfl ?_; refine a_eql ?_; refine a_cndbT rfl ?_; refine a_cndbT rfl ?_)
        unfold mk; rw [fewT]; rfl
      · (refine a_bxv fun z1 => ?_; refine a_fld ?_; (apply a_ld1 0; exact rfl; exact rfl); (apply a_jnX; intro J hJ); refine a_eql ?_; refine a_cndbF rfl ?_; refine a_eql ?_; exact hJ; dsimp only [aix0, aix1, aix2, aix3, aix4, aix5, aix6, aix7, aix8]; refine a_cndbF rfl ?_; refine a_eql ?_; refine a_cndbF rfl ?_; refine a_eql ?_; refine a_cndbF rfl ?_; refine a_eql ?_; refine a_cndbT rfl ?_; refine a_cndbT rfl ?_)
        unfold mk; rw [fewT]; rfl
    · intro x hx _
      refine AFn.of (s46 ?_)
      unfold A46
      (refine a_bxv fun z1 => ?_; refine a_fld ?_; (apply a_ld1 0; exact rfl; exact rfl); (apply a_jnX; intro J hJ); refine a_eql ?_; refine a_cndbF rfl ?_; refine a_eql ?_; exact hJ; dsimp only [aix0, aix1, aix2, aix3, aix4, aix5, aix6, aix7, aix8]; refine a_cndbF rfl ?_; refine a_eql ?_; refine a_cndbT rfl ?_; refine a_fld ?_; (apply a_ld1 0; exact rfl; exact rfl); refine a_idxT0 ?_; refine a_fldp ?_; (apply a_ld1p; exact rfl); refine a_eql ?_)
      have e : fewT (mk 18 [x]) = (decide (x.op = 15) || decide (x.op = 22)) := by unfold mk; rw [fewT, if_neg (by decide), if_pos rfl]; rfl
      refine a_cnd (fun h2 => ?_) (fun h2 => ?_)
      · exact ret_b (by rw [e, decide_eq_true h2]; rfl)
      (refine a_fld ?_; (apply a_ld1 0; exact rfl; exact rfl); refine a_idxT0 ?_; refine a_fldp ?_; (apply a_ld1p; exact rfl); refine a_eql ?_)
      exact ret_b (by rw [e, decide_eq_false h2]; rfl)
    · intro op a ho hx h1
      refine AFn.of (s46 ?_)
      unfold A46
      have e : fewT (mk op a) = !(a.any fun x => !fewT x) := by rw [fewT_many ho]; induction a with
        | nil => rfl
        | cons y r ih => rw [List.all_cons, List.any_cons, ih (fun z hz => hx z (by simp [hz])) (fun z hz => h1 z (by simp only [mk, Tm.a] at hz ⊢; simp [hz]))]; cases fewT y <;> simp
      rw [e]
      (refine a_bxv fun z1 => ?_; refine a_fld ?_; (apply a_ld1 0; exact rfl; exact rfl))
      refine a_jn1 [.b true] [⟨z1, (mk op a).cs, .box⟩] ?_ fun J hJ => ?_
      · dsimp only [aix0, aix1, aix2, aix3, aix4, aix5, aix6, aix7, aix8]
        (refine a_cndbT rfl ?_; refine a_fld ?_; (apply a_ld1 0; exact rfl; exact rfl))
        refine a_call0 (contains_terms fun x hx' => h1 x hx' (hx x hx')) ?_
        (refine a_not ?_)
        rfl
      · rcases ho with rfl | rfl
        · (refine a_eql ?_; refine a_cndbT rfl ?_)
          exact hJ _ _ (by first | exact Gl.refl _ _ | exact Gl.drop (by repeat (first | exact List.Sublist.refl _ | exact List.Sublist.slnil | apply List.Sublist.cons_cons | apply List.Sublist.cons)))
        · (refine a_eql ?_; refine a_cndbF rfl ?_; refine a_eql ?_)
          exact hJ _ _ (by first | exact Gl.refl _ _ | exact Gl.drop (by repeat (first | exact List.Sublist.refl _ | exact List.Sublist.slnil | apply List.Sublist.cons_cons | apply List.Sublist.cons)))
    · intro x y hx hy _
      refine AFn.of (s46 ?_)
      unfold A46
      (refine a_bxv fun z1 => ?_; refine a_fld ?_; (apply a_ld1 0; exact rfl; exact rfl); (apply a_jnX; intro J hJ); refine a_eql ?_; refine a_cndbF rfl ?_; refine a_eql ?_; exact hJ; dsimp only [aix0, aix1, aix2, aix3, aix4, aix5, aix6, aix7, aix8]; refine a_cndbF rfl ?_; refine a_eql ?_; refine a_cndbF rfl ?_; refine a_eql ?_; refine a_cndbF rfl ?_; refine a_eql ?_; refine a_cndbF rfl ?_; refine a_eql ?_; refine a_cndbF rfl ?_; refine a_eql ?_; refine a_cndbF rfl ?_)
      unfold mk; rw [fewT]; rfl
    · intro x y _
      refine AFn.of (s46 ?_)
      unfold A46
      (refine a_bxv fun z1 => ?_; refine a_fld ?_; (apply a_ld1 0; exact rfl; exact rfl); (apply a_jnX; intro J hJ); refine a_eql ?_; refine a_cndbF rfl ?_; refine a_eql ?_; exact hJ; dsimp only [aix0, aix1, aix2, aix3, aix4, aix5, aix6, aix7, aix8]; refine a_cndbF rfl ?_; refine a_eql ?_; refine a_cndbF rfl ?_; refine a_eql ?_; refine a_cndbF rfl ?_; refine a_eql ?_; refine a_cndbF rfl ?_; refine a_eql ?_; refine a_cndbF rfl ?_; refine a_eql ?_; refine a_cndbT rfl ?_)
      rw [fewT_le]
    · intro op x y h1 h2 _
      refine AFn.of (s46 ?_)
      unfold A46
      have e : fewT (mk op [x, y]) = false := by
        cases hf : fewT (mk op [x, y])
        · rfl
        · have := few_op hf; simp only [mk, Tm.op] at this; omega
      rw [e]
      have e1 : (mk op [x, y]).op = op := rfl
      (refine a_bxv fun z1 => ?_; refine a_fld ?_; (apply a_ld1 0; exact rfl; exact rfl); (apply a_jnX; intro J hJ); refine a_eql ?_; refine a_cndF (by first | omega | assumption | decide) ?_; refine a_eql ?_; exact hJ; dsimp only [aix0, aix1, aix2, aix3, aix4, aix5, aix6, aix7, aix8]; refine a_cndF (by first | omega | assumption | decide) ?_; refine a_eql ?_; refine a_cndF (by first | omega | assumption | decide) ?_; refine a_eql ?_; refine a_cndF (by first | omega | assumption | decide) ?_; refine a_eql ?_; refine a_cndF (by first | omega | assumption | decide) ?_; refine a_eql ?_; refine a_cndF (by first | omega | assumption | decide) ?_; refine a_eql ?_; refine a_cndF (by first | omega | assumption | decide) ?_)
      rfl
theorem ret_di {u v : Tm} {a b : Int} (h : (u, a) = (v, b)) : AE.ret (.tuple [u.d, .i a]) = .ret (.tuple [v.d, .i b]) := by injection h with h1 h2; rw [h1, h2]
theorem c18 (t : Tm) : AFn pr 18 [t.d] [] (.ret (.tuple [(NormF t).1.d, .i (NormF t).2])) := by
  refine AFn.of (s18 ?_)
  unfold A18
  (refine a_bxv fun z1 => ?_; refine a_bx fun z2 => ?_; (apply a_ldA 1; exact rfl; exact rfl); refine a_call0 (c23 _) ?_; (apply a_ext; exact rfl); (apply a_ext; exact rfl); refine a_neq ?_)
  refine a_cnd (fun h1 => ?_) (fun h1 => ?_)
  · (refine a_bldT0 rfl rfl ?_; refine a_stA 0 rfl rfl rfl rfl ?_; (apply a_ldA 0; exact rfl; exact rfl))
    exact ret_di (u := mk 0 []) (by unfold NormF; rw [if_pos h1])
  (refine a_neq ?_)
  refine a_cnd (fun h2 => ?_) (fun h2 => ?_)
  · (refine a_bldT0 rfl rfl ?_; refine a_stA 0 rfl rfl rfl rfl ?_; (apply a_ldA 0; exact rfl; exact rfl))
    exact ret_di (u := mk 0 []) (by unfold NormF; rw [if_neg h1, if_pos h2])
  obtain ⟨hs, hd, hr⟩ := sortF_bool (t := t) (by omega) (by omega)
  ((apply a_ldA 1; exact rfl; exact rfl); refine a_call0 (c43 _ (by first | omega | assumption | decide) (by first | omega | assumption | decide) _) ?_; refine a_bx fun z3 => ?_; refine a_stA 0 rfl rfl rfl rfl ?_; (apply a_ldA 0; exact rfl; exact rfl); refine a_call0 (c23 _) ?_; (apply a_ext; exact rfl); (apply a_ext; exact rfl); refine a_neq ?_)
  refine a_cnd (fun h3 => ?_) (fun h3 => ?_)
  · (refine a_bldT0 rfl rfl ?_; refine a_stA 1 rfl rfl rfl rfl ?_; (apply a_ldA 1; exact rfl; exact rfl))
    exact ret_di (u := mk 0 []) (by unfold NormF; rw [if_neg h1, if_neg h2, if_pos h3])
  ((apply a_ldA 0; exact rfl; exact rfl); refine a_stA 1 rfl rfl rfl rfl ?_; (apply a_ldA 1; exact rfl; exact rfl))
  exact ret_di (by unfold NormF; rw [if_neg h1, if_neg h2, if_neg h3])
theorem c21 (t : Tm) : AFn pr 21 [t.d] [] (.ret (.b (IsF t))) := by
  refine AFn.of (s21 ?_)
  unfold A21
  (refine a_bxv fun z1 => ?_; (apply a_ldA 0; exact rfl; exact rfl); refine a_call0 (c23 _) ?_; (apply a_ext; exact rfl); (apply a_ext; exact rfl); refine a_eql ?_)
  refine a_cnd (fun h1 => ?_) (fun h1 => ?_)
  · (refine a_eql ?_)
    refine a_cnd (fun h2 => ?_) (fun h2 => ?_)
    · obtain ⟨hs, hd, hr⟩ := sortF_bool h1 h2
      ((apply a_ldA 0; exact rfl; exact rfl); refine a_call0 (c46 _ (by first | omega | assumption | decide)) ?_)
      exact ret_b (by unfold IsF; rw [decide_eq_true h1, decide_eq_true h2]; rfl)
    · exact ret_b (by unfold IsF; rw [decide_eq_true h1, decide_eq_false h2]; rfl)
  · exact ret_b (by unfold IsF; rw [decide_eq_false h1]; rfl)
/-! ### the laws -/
def xT : Tm := .mk 2 ⟨#[120]⟩ 0 []
def yT : Tm := .mk 2 ⟨#[121]⟩ 0 []
theorem normF1 : NormF (mk 18 [mk 23 [xT, yT]]) = (leT yT xT, 0) := by kernel_rfl
theorem normF2 : NormF xT = (mk 0 [], 3) := by kernel_rfl
theorem isF1 : IsF (leT yT xT) = true := by kernel_rfl
theorem isF2 : IsF (mk 23 [xT, yT]) = false := by kernel_rfl
theorem sameF1 : sameF (leT yT xT) (leT yT xT) = true := by kernel_rfl
end Go.Proofs.YtlonmopppgadgaaDoor
