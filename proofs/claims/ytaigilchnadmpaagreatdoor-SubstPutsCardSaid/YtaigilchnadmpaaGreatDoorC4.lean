/- Contracts of the document's Deep and Same, and of norm. -/
import Derived.Test.YtaigilchnadmpaaGreatDoorC3
import Derived.Test.YtaigilchnadmpaaGreatDoorT1
set_option maxRecDepth 100000
set_option linter.unusedVariables false
namespace Go.Proofs.YtaigilchnadmpaaGreatDoor
open Go Go.V
theorem c107 (t : Tm) : ∀ {m : Int}, 1 ≤ m → m ≤ 101 → AFn pr 107 [t.d, .i m] [] (.ret (.i (rdeepT t m))) := by
  induction t using Tm.ind' with
  | h t ih =>
    intro m hm1 hm2
    refine AFn.small fun hs => AFn.of (s107 ?_)
    rw [Smalls] at hs
    have hs := Tm.small (Tm.small_d hs.1)
    unfold A107
    (refine a_bxv fun z1 => ?_; refine a_eql ?_)
    refine a_cnd (fun h => ?_) (fun h => ?_)
    · exact ret_i (by rw [rdeepT_eq, if_pos h])
    refine a_lp2 (σ := Int) (τ := Nat) (fun n i => [.i n, .i i]) (fun _ _ => [⟨z1, t.cs, .box⟩]) (fun n i => i ≤ t.a.length ∧ 0 ≤ n ∧ n ≤ m - 1 ∧ rdeepL (t.a.drop i) (m - 1) n = rdeepL t.a (m - 1) 0) (fun _ i => t.a.length - i) 0 0 (by first | exact Gl.refl _ _ | exact Gl.drop (by repeat (first | exact List.Sublist.refl _ | exact List.Sublist.slnil | apply List.Sublist.cons_cons | apply List.Sublist.cons))) ⟨Nat.zero_le _, by omega, by omega, rfl⟩ ?_
    rintro n i K ⟨hi, hn0, hn1, hd⟩ hK
    dsimp only [aix0, aix1, aix2, aix3, aix4, aix5, aix6, aix7, aix8]
    (refine a_fld ?_; (apply a_ld1 0; exact rfl; exact rfl); refine Tm.a_len ?_; refine a_lss ?_)
    refine a_cnd (fun h2 => ?_) (fun h2 => ?_)
    · rw [List.drop_eq_getElem_cons (by omega), rdeepL] at hd
      have hb := rdeepT_bound t.a[i] (m - 1) (by omega)
      (refine a_fld ?_; (apply a_ld1 0; exact rfl; exact rfl))
      refine Tm.a_idx i (by omega) ?_
      ((apply a_ldAp; exact rfl); refine a_sub (by first | omega | assumption | decide) (by first | omega | assumption | decide) ?_)
      refine a_call0 (ih _ (List.getElem_mem _) (by omega) (by omega)) ?_
      (refine a_max ?_; refine a_add (by first | omega | assumption | decide) (by first | omega | assumption | decide) ?_)
      exact hK _ (i + 1) _ _ ⟨by omega, by omega, by omega, hd⟩ (by omega) (by first | exact Gl.refl _ _ | exact Gl.drop (by repeat (first | exact List.Sublist.refl _ | exact List.Sublist.slnil | apply List.Sublist.cons_cons | apply List.Sublist.cons)))
    · rw [List.drop_eq_nil_of_le (by omega), rdeepL] at hd
      (refine a_add (by first | omega | assumption | decide) (by first | omega | assumption | decide) ?_)
      exact ret_i (by rw [rdeepT_eq, if_neg h, ← hd])
theorem c56 (t : Tm) : AFn pr 56 [t.d] [] (.ret (.i (rdeepT t 101))) := by
  refine AFn.of (s56 ?_)
  unfold A56
  (refine a_bxv fun z1 => ?_; (apply a_ldA 0; exact rfl; exact rfl); refine a_call0 (c107 _ (by first | omega | assumption | decide) (by first | omega | assumption | decide)) ?_)
  rfl
theorem c57 (t : Tm) : ∀ (u : Tm), AFn pr 57 [t.d, u.d] [] (.ret (.b (sameT t u))) := by
  induction t using Tm.ind' with
  | h t ih =>
    intro u
    refine AFn.small fun hs => AFn.of (s57 ?_)
    rw [Smalls] at hs
    have hs := Tm.small (Tm.small_d hs.1)
    unfold A57
    refine a_bxv fun z1 => ?_
    refine a_bxv fun z2 => ?_
    refine a_jn (σ := Unit) (fun _ => []) (fun _ => [⟨z2, u.cs, .box⟩, ⟨z1, t.cs, .box⟩]) (fun _ => t.op = u.op ∧ t.nm = u.nm ∧ t.n = u.n ∧ t.a.length = u.a.length) ?_ fun J hJ => ?_
    · rintro _ ⟨e1, e2, e3, e4⟩
      refine a_lp (σ := Nat) (fun i => [.i i]) (fun _ => [⟨z2, u.cs, .box⟩, ⟨z1, t.cs, .box⟩]) (fun i => i ≤ t.a.length ∧ sameL (t.a.drop i) (u.a.drop i) = sameL t.a u.a) (fun i => t.a.length - i) 0 (by first | exact Gl.refl _ _ | exact Gl.drop (by repeat (first | exact List.Sublist.refl _ | exact List.Sublist.slnil | apply List.Sublist.cons_cons | apply List.Sublist.cons))) ⟨Nat.zero_le _, rfl⟩ ?_
      rintro i K ⟨hi, hd⟩ hK
      dsimp only [aix0, aix1, aix2, aix3, aix4, aix5, aix6, aix7, aix8]
      (refine a_fld ?_; (apply a_ld1 1; exact rfl; exact rfl); refine Tm.a_len ?_; refine a_lss ?_)
      refine a_cnd (fun h => ?_) (fun h => ?_)
      · have hi1 : i < t.a.length := by omega
        have hi2 : i < u.a.length := by omega
        rw [List.drop_eq_getElem_cons hi1, List.drop_eq_getElem_cons hi2, sameL] at hd
        (refine a_fld ?_; (apply a_ld1 1; exact rfl; exact rfl))
        refine Tm.a_idx i hi1 ?_
        ((apply a_ldAp; exact rfl); refine a_fld ?_; (apply a_ld1 0; exact rfl; exact rfl))
        refine Tm.a_idx i hi2 ?_
        ((apply a_ldAp; exact rfl))
        refine a_callS0 (ih _ (List.getElem_mem _) _) ?_
        (refine a_not ?_)
        refine a_cndb (fun h1 => ?_) (fun h1 => ?_)
        · exact ret_b (by rw [sameT_eq, ← hd, show sameT t.a[i] u.a[i] = false by simpa using h1, Bool.false_and, Bool.and_false])
        · (refine a_add (by first | omega | assumption | decide) (by first | omega | assumption | decide) ?_)
          exact hK (i + 1) _ _ ⟨by omega, by rw [← hd, show sameT t.a[i] u.a[i] = true by simpa using h1, Bool.true_and]⟩ (by omega) (by first | exact Gl.refl _ _ | exact Gl.drop (by repeat (first | exact List.Sublist.refl _ | exact List.Sublist.slnil | apply List.Sublist.cons_cons | apply List.Sublist.cons)))
      · rw [List.drop_eq_nil_of_le (by omega), List.drop_eq_nil_of_le (by omega), sameL] at hd
        exact ret_b (by rw [sameT_eq, ← hd, decide_eq_true e1, decide_eq_true e2, decide_eq_true e3]; rfl)
    · (refine a_fld ?_; (apply a_ld1 1; exact rfl; exact rfl); refine a_fld ?_; (apply a_ld1 0; exact rfl; exact rfl); refine a_neq ?_)
      refine a_cnd (fun h1 => ?_) (fun h1 => ?_)
      · exact ret_b (by rw [sameT_eq, decide_eq_false h1]; rfl)
      (refine a_fld ?_; (apply a_ld1 1; exact rfl; exact rfl); refine a_fld ?_; (apply a_ld1 0; exact rfl; exact rfl); refine a_neqS ?_)
      refine a_cnd (fun h2 => ?_) (fun h2 => ?_)
      · exact ret_b (by rw [sameT_eq, decide_eq_false h2, Bool.and_false]; rfl)
      (refine a_fld ?_; (apply a_ld1 1; exact rfl; exact rfl); refine a_fld ?_; (apply a_ld1 0; exact rfl; exact rfl); refine a_neq ?_)
      refine a_cnd (fun h3 => ?_) (fun h3 => ?_)
      · exact ret_b (by rw [sameT_eq, decide_eq_false h3, Bool.and_false]; rfl)
      (refine a_fld ?_; (apply a_ld1 1; exact rfl; exact rfl); refine Tm.a_len ?_; refine a_fld ?_; (apply a_ld1 0; exact rfl; exact rfl); refine Tm.a_len ?_; refine a_neq ?_)
      refine a_cnd (fun h4 => ?_) (fun h4 => ?_)
      · exact ret_b (by rw [sameT_eq, sameL_len (by omega), Bool.and_false])
      exact hJ () _ _ ⟨by omega, Classical.not_not.1 h2, by omega, by omega⟩ (by first | exact Gl.refl _ _ | exact Gl.drop (by repeat (first | exact List.Sublist.refl _ | exact List.Sublist.slnil | apply List.Sublist.cons_cons | apply List.Sublist.cons)))
theorem c16 (t u : Tm) : AFn pr 16 [t.d, u.d] [] (.ret (.b (sameF t u))) := by
  refine AFn.of (s16 ?_)
  unfold A16
  (refine a_bxv fun z1 => ?_; refine a_bxv fun z2 => ?_; (apply a_ldA 1; exact rfl; exact rfl); refine a_call0 (c56 _) ?_; refine a_leq ?_)
  refine a_cnd (fun h1 => ?_) (fun h1 => ?_)
  · ((apply a_ldA 0; exact rfl; exact rfl); refine a_call0 (c56 _) ?_; refine a_leq ?_)
    refine a_cnd (fun h2 => ?_) (fun h2 => ?_)
    · ((apply a_ldA 1; exact rfl; exact rfl); (apply a_ldA 0; exact rfl; exact rfl); refine a_call0 (c57 _ _) ?_)
      exact ret_b (by rw [sameF, deep_eq t 101 (by omega), deep_eq u 101 (by omega), decide_eq_true h1, decide_eq_true h2]; rfl)
    · exact ret_b (by rw [sameF, deep_eq t 101 (by omega), deep_eq u 101 (by omega), decide_eq_true h1, decide_eq_false h2]; rfl)
  · exact ret_b (by rw [sameF, deep_eq t 101 (by omega), decide_eq_false h1]; rfl)
/-! ### norm -/
end Go.Proofs.YtaigilchnadmpaaGreatDoor
