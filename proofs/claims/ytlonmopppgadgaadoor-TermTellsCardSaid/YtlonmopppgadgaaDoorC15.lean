/- Contracts: Same. -/
import Derived.Test.YtlonmopppgadgaaDoorC14
import Derived.Test.YtlonmopppgadgaaDoorC10
import Derived.Test.YtlonmopppgadgaaDoorW3
set_option maxRecDepth 100000
set_option linter.unusedVariables false
namespace Go.Proofs.YtlonmopppgadgaaDoor
open Go Go.V
theorem Nm.a_idx {l : List Nm} {ki : IntKind} {k : D → Prop} (i : Nat) (hi : i < l.length) (h : k (.pin (Nm.cr l[i]))) : aidxS 5 (.row 5 (l.map Nm.cr)) (.val (.int ki i)) k :=
  V.a_idx i _ (by rw [List.getElem?_map, List.getElem?_eq_getElem hi]; rfl) h
theorem Nm.a_f0 {x : Nm} {k : D → Prop} (h : k (.pin (Nm.cr x))) : afld 0 (.pin (Nm.cr x)) k := h
theorem Nm.a_f1 {x : Nm} {k : D → Prop} (h : k (.pin (Nm.tm x).cs)) : afld 1 (.pin (Nm.cr x)) k := h
theorem Nm.a_ld {x : Nm} {L : List Bx} {k : D → Prop} (h : k (.s (str x.1))) : ald1 (.pin (Nm.cr x)) L k := h
theorem equal_terms {g : Nat} {a b : List Tm} (hg : ∀ x ∈ a, ∀ y, AFn pr g [x.d, y.d] [] (.ret (.b (sameT x y)))) :
    AFn pr 106 [.row 4 (Tm.rows a), .row 4 (Tm.rows b), .fn g [] []] [] (.ret (.b (sameL a b))) := by
  refine AFn.small fun hs => AFn.of (s106 ?_)
  rw [Smalls, Small, Tm.rows_len] at hs
  have hl := hs.1.1
  unfold A106
  (refine Tm.a_len ?_; refine Tm.a_len ?_; refine a_neq ?_)
  refine a_cnd (fun h => ?_) (fun h => ?_)
  · exact ret_b (sameL_len (by omega)).symm
  have hab : a.length = b.length := by omega
  (refine Tm.a_len ?_)
  refine a_lp (σ := Nat) (fun i => [.i i]) (fun _ => []) (fun i => i ≤ a.length ∧ sameL (a.drop i) (b.drop i) = sameL a b) (fun i => a.length - i) 0 (by first | exact Gl.refl _ _ | exact Gl.drop (by repeat (first | exact List.Sublist.refl _ | exact List.Sublist.slnil | apply List.Sublist.cons_cons | apply List.Sublist.cons))) ⟨Nat.zero_le _, rfl⟩ ?_
  rintro i K ⟨hi, hd⟩ hK
  dsimp only [aix0, aix1, aix2, aix3, aix4, aix5, aix6, aix7, aix8]
  (refine a_lss ?_)
  refine a_cnd (fun h => ?_) (fun h => ?_)
  · have hi1 : i < a.length := by omega
    have hi2 : i < b.length := by omega
    rw [List.drop_eq_getElem_cons hi1, List.drop_eq_getElem_cons hi2, sameL] at hd
    refine Tm.a_idx i hi1 ?_
    ((apply a_ldAp; exact rfl); refine a_bx fun z1 => ?_; refine a_stA 0 rfl rfl rfl rfl ?_)
    refine Tm.a_idx i hi2 ?_
    ((apply a_ldAp; exact rfl); refine a_bx fun z2 => ?_; refine a_stA 0 rfl rfl rfl rfl ?_; (apply a_ldA 1; exact rfl; exact rfl); (apply a_ldA 0; exact rfl; exact rfl); refine a_cfW ?_)
    refine a_call0 (hg _ (List.getElem_mem hi1) _) ?_
    (refine a_not ?_)
    refine a_cndb (fun h1 => ?_) (fun h1 => ?_)
    · exact ret_b (by rw [← hd, show sameT a[i] b[i] = false by simpa using h1]; rfl)
    · (refine a_add (by first | omega | assumption | decide) (by first | omega | assumption | decide) ?_)
      exact hK (i + 1) _ _ ⟨by omega, by rw [← hd, show sameT a[i] b[i] = true by simpa using h1, Bool.true_and]⟩ (by omega) (by first | exact Gl.refl _ _ | exact Gl.drop (by repeat (first | exact List.Sublist.refl _ | exact List.Sublist.slnil | apply List.Sublist.cons_cons | apply List.Sublist.cons)))
  · rw [List.drop_eq_nil_of_le (by omega), List.drop_eq_nil_of_le (by omega), sameL] at hd
    exact ret_b hd
theorem c70 (t : Tm) : ∀ u : Tm, AFn pr 70 [t.d, u.d] [] (.ret (.b (sameT t u))) := by
  induction t using Tm.ind' with
  | h t ih =>
    intro u
    refine AFn.small fun hs => AFn.of (s70 ?_)
    unfold A70
    (refine a_bxv fun z1 => ?_; refine a_bxv fun z2 => ?_; refine a_fld ?_; (apply a_ld1 1; exact rfl; exact rfl); refine a_fld ?_; (apply a_ld1 0; exact rfl; exact rfl); refine a_eql ?_)
    refine a_cnd (fun h1 => ?_) (fun h1 => ?_)
    · (refine a_fld ?_; (apply a_ld1 1; exact rfl; exact rfl); refine a_fld ?_; (apply a_ld1 0; exact rfl; exact rfl); refine a_eqlS ?_)
      refine a_cnd (fun h2 => ?_) (fun h2 => ?_)
      · (refine a_fld ?_; (apply a_ld1 1; exact rfl; exact rfl); refine a_fld ?_; (apply a_ld1 0; exact rfl; exact rfl); refine a_eql ?_)
        refine a_cnd (fun h3 => ?_) (fun h3 => ?_)
        · (refine a_fld ?_; (apply a_ld1 1; exact rfl; exact rfl); refine a_fld ?_; (apply a_ld1 0; exact rfl; exact rfl))
          refine a_call0 (equal_terms ih) ?_
          skip
          exact ret_b (by rw [sameT_eq, decide_eq_true h1, decide_eq_true h2, decide_eq_true h3]; rfl)
        · exact ret_b (by rw [sameT_eq, decide_eq_false h3, Bool.and_false]; rfl)
      · exact ret_b (by rw [sameT_eq, decide_eq_false h2, Bool.and_false]; rfl)
    · exact ret_b (by rw [sameT_eq, decide_eq_false h1]; rfl)
theorem c40 (t u : Tm) : AFn pr 40 [t.d, u.d] [] (.ret (.b (sameF t u))) := by
  refine AFn.of (s40 ?_)
  unfold A40
  (refine a_bxv fun z1 => ?_; refine a_bxv fun z2 => ?_; (apply a_ldA 1; exact rfl; exact rfl); refine a_call0 (c24 _) ?_; refine a_leq ?_)
  refine a_cnd (fun h1 => ?_) (fun h1 => ?_)
  · ((apply a_ldA 0; exact rfl; exact rfl); refine a_call0 (c24 _) ?_; refine a_leq ?_)
    refine a_cnd (fun h2 => ?_) (fun h2 => ?_)
    · ((apply a_ldA 1; exact rfl; exact rfl); (apply a_ldA 0; exact rfl; exact rfl); refine a_call0 (c70 _ _) ?_)
      exact ret_b (by rw [sameF, decide_eq_true h1, decide_eq_true h2]; rfl)
    · exact ret_b (by rw [sameF, decide_eq_true h1, decide_eq_false h2]; rfl)
  · exact ret_b (by rw [sameF, decide_eq_false h1]; rfl)
theorem names_shown : NamesF (Tm.mk 22 ⟨#[]⟩ 0 [Tm.mk 1 ⟨#[]⟩ 1 [], Tm.mk 3 ⟨#[]⟩ 0 [Tm.mk 7 ⟨#[97]⟩ 0 []]]) = [([97], 7)] := by
  have e1 : sortF (Tm.mk 22 ⟨#[]⟩ 0 [Tm.mk 1 ⟨#[]⟩ 1 [], Tm.mk 3 ⟨#[]⟩ 0 [Tm.mk 7 ⟨#[97]⟩ 0 []]]) = (4, 0) := by kernel_rfl
  have e2 : collT (Tm.mk 22 ⟨#[]⟩ 0 [Tm.mk 1 ⟨#[]⟩ 1 [], Tm.mk 3 ⟨#[]⟩ 0 [Tm.mk 7 ⟨#[97]⟩ 0 []]]) = [([97], 7)] := by kernel_rfl
  unfold NamesF namesT
  rw [e1, e2]
  simp [sortN, compactN]
theorem c33 : AFn pr 33 [] [] (.ret (.b true)) := by
  refine AFn.of (s33 ?_)
  unfold A33
  (refine a_bldT0 rfl rfl ?_; refine a_bx fun z1 => ?_; refine a_stA 0 rfl rfl rfl rfl ?_; refine a_bldT0 rfl rfl ?_; (apply a_ldA 0; exact rfl; exact rfl); refine a_rowS1 rfl ?_; refine a_bldT rfl rfl ?_; refine a_rowS2 rfl ?_; refine a_bldT rfl rfl ?_; refine a_bx fun z2 => ?_; refine a_stA 0 rfl rfl rfl rfl ?_; (apply a_ldA 0; exact rfl; exact rfl); refine a_call0 (c23 _) ?_; (apply a_ext; exact rfl); (apply a_ext; exact rfl); (apply a_ldA 0; exact rfl; exact rfl); refine a_rowS1 rfl ?_; refine a_bldT rfl rfl ?_; refine a_call0 (c23 _) ?_; (apply a_ext; exact rfl); (apply a_ext; exact rfl); (apply a_ldA 0; exact rfl; exact rfl); refine a_call0 (c38 _) ?_; refine a_eql ?_; refine a_cndbT rfl ?_; refine a_eql ?_; refine a_cndbT rfl ?_; refine a_eql ?_; refine a_cndbT rfl ?_; (apply a_ldA 0; exact rfl; exact rfl); refine a_call0 (c25 _) ?_; refine a_eql ?_; refine a_cndbT rfl ?_; (apply a_ldA 0; exact rfl; exact rfl); refine a_call0 (c24 _) ?_; refine a_eql ?_; refine a_cndbT rfl ?_; refine a_lenL ?_; refine a_eql ?_)
  rw [names_shown]
  (refine a_cndbT rfl ?_; refine Nm.a_idx 0 (by decide) ?_; refine Nm.a_f0 ?_; refine Nm.a_ld ?_; refine a_eqlS ?_; refine a_cndbT rfl ?_; (apply a_ldA 0; exact rfl; exact rfl); (apply a_ldA 0; exact rfl; exact rfl); refine a_call0 (c40 _ _) ?_; refine a_cndbT rfl ?_; (apply a_ldA 0; exact rfl; exact rfl); (apply a_ldA 1; exact rfl; exact rfl); refine a_call0 (c40 _ _) ?_; refine a_not ?_; refine a_cndbT rfl ?_; refine a_call0 (c41) ?_; refine a_cndbT rfl ?_; refine a_call0 (c41) ?_; refine a_not ?_)
  exact ret_b (by kernel_rfl)
end Go.Proofs.YtlonmopppgadgaaDoor
