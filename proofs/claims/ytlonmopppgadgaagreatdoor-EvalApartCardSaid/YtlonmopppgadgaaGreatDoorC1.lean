/- Contracts of what measures terms. -/
import Derived.Test.YtlonmopppgadgaaGreatDoorW1
import Derived.Test.YtlonmopppgadgaaGreatDoorM1
set_option maxRecDepth 100000
set_option linter.unusedVariables false
namespace Go.Proofs.YtlonmopppgadgaaGreatDoor
open Go Go.V
theorem c14 (t : Tm) : ∀ {b : Nat} {s d dp : Int}, 0 ≤ s → s ≤ 2000 → 1 ≤ dp → dp ≤ 101 →
    AUp pr 14 [.p b 0, t.d, .i dp] [⟨b, [.i s, .i d], .box⟩] (.ret (.tuple [])) [⟨b, [.i (ofT t dp s d).1, .i (ofT t dp s d).2], .box⟩] := by
  induction t using Tm.ind' with
  | h t ih =>
    intro b s d dp hs0 hs1 hd0 hd1
    refine ASpec.small fun hsm => AUp.of (s14 ?_)
    rw [Smalls, Smalls] at hsm
    have hs := Tm.small (Tm.small_d hsm.2.1)
    unfold A14
    (refine a_bxv fun z1 => ?_; refine a_nil ?_; refine a_fld ?_; (apply a_ld1 1; exact rfl; exact rfl); refine a_add (by first | omega | assumption | decide) (by first | omega | assumption | decide) ?_; refine a_nil ?_; refine a_fld ?_; (apply a_st 1 _; exact rfl; exact rfl; exact rfl; exact rfl; (try dsimp only [afill, aparts, cl, chunk, List.take, List.drop, List.nil_append, List.cons_append, List.append_nil, List.length_cons, List.length_nil, Nat.zero_add, Nat.reduceAdd, Nat.reduceMul]); try exact rfl); refine a_nil ?_; refine a_fld ?_; (apply a_ld1 1; exact rfl; exact rfl); refine a_max ?_; refine a_nil ?_; refine a_fld ?_; (apply a_st 1 _; exact rfl; exact rfl; exact rfl; exact rfl; (try dsimp only [afill, aparts, cl, chunk, List.take, List.drop, List.nil_append, List.cons_append, List.append_nil, List.length_cons, List.length_nil, Nat.zero_add, Nat.reduceAdd, Nat.reduceMul]); try exact rfl); refine a_fld ?_; (apply a_ld1 0; exact rfl; exact rfl); refine Tm.a_len ?_)
    refine a_lp3 (σ := Nat) (τ := Int) (ρ := Int) (fun i _ _ => [.i i]) (fun _ x y => [⟨z1, t.cs, .box⟩, ⟨b, [.i x, .i y], .box⟩]) (fun i x y => i ≤ t.a.length ∧ 0 ≤ x ∧ x ≤ 2001 ∧ ofL (t.a.drop i) dp x y = ofL t.a dp (s + 1) (max d dp)) (fun i _ _ => t.a.length - i) 0 (s + 1) (max d dp) (by first | exact Gl.refl _ _ | exact Gl.drop (by repeat (first | exact List.Sublist.refl _ | exact List.Sublist.slnil | apply List.Sublist.cons_cons | apply List.Sublist.cons))) ⟨Nat.zero_le _, by omega, by omega, rfl⟩ ?_
    rintro i x y K ⟨hi, hx0, hx1, hd⟩ hK
    dsimp only [aix0, aix1, aix2, aix3, aix4, aix5, aix6, aix7, aix8]
    (refine a_lss ?_)
    refine a_cnd (fun h => ?_) (fun h => ?_)
    · rw [List.drop_eq_getElem_cons (by omega), ofL] at hd
      refine Tm.a_idx i (by omega) ?_
      ((apply a_ldAp; exact rfl); refine a_bx fun z2 => ?_; refine a_stA 0 rfl rfl rfl rfl ?_; refine a_nil ?_; refine a_fld ?_; (apply a_ld1 2; exact rfl; exact rfl); refine a_gtr ?_)
      refine a_cnd (fun h2 => ?_) (fun h2 => ?_)
      · rw [if_pos (Or.inl h2)] at hd
        refine ⟨rfl, ?_⟩
        rw [ofT_eq, ← hd]
        exact (by repeat (first | exact List.Sublist.refl _ | exact List.Sublist.slnil | apply List.Sublist.cons_cons | apply List.Sublist.cons))
      (refine a_gtr ?_)
      refine a_cnd (fun h3 => ?_) (fun h3 => ?_)
      · rw [if_pos (Or.inr h3)] at hd
        refine ⟨rfl, ?_⟩
        rw [ofT_eq, ← hd]
        exact (by repeat (first | exact List.Sublist.refl _ | exact List.Sublist.slnil | apply List.Sublist.cons_cons | apply List.Sublist.cons))
      rw [if_neg (fun h => h.elim h2 h3)] at hd
      have hb := ofT_bound t.a[i] (dp + 1) x y (by omega) (by omega)
      ((apply a_ldA 0; exact rfl; exact rfl); refine a_add (by first | omega | assumption | decide) (by first | omega | assumption | decide) ?_)
      refine a_callU 2 rfl (ih _ (List.getElem_mem _) (by omega) (by omega) (by omega) (by omega)) ?_
      dsimp only [AE.on]
      (refine a_add (by first | omega | assumption | decide) (by first | omega | assumption | decide) ?_)
      exact hK (i + 1) _ _ _ _ ⟨by omega, hb.1, hb.2, hd⟩ (by omega) (by first | exact Gl.refl _ _ | exact Gl.drop (by repeat (first | exact List.Sublist.refl _ | exact List.Sublist.slnil | apply List.Sublist.cons_cons | apply List.Sublist.cons)))
    · rw [List.drop_eq_nil_of_le (by omega), ofL] at hd
      refine ⟨rfl, ?_⟩
      rw [ofT_eq, ← hd]
      exact (by repeat (first | exact List.Sublist.refl _ | exact List.Sublist.slnil | apply List.Sublist.cons_cons | apply List.Sublist.cons))
end Go.Proofs.YtlonmopppgadgaaGreatDoor
