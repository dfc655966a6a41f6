/- Contracts of what measures terms. -/
import Derived.Test.YtaigilchnadmpaaDoorW1
import Derived.Test.YtaigilchnadmpaaDoorM1
set_option maxRecDepth 100000
set_option linter.unusedVariables false
namespace Go.Proofs.YtaigilchnadmpaaDoor
open Go Go.V
theorem c38 (t : Tm) : ∀ m : Int, 1 ≤ m → m ≤ 101 → AFn pr 38 [t.d, .i m] [] (.ret (.i (deepT t m))) := by
  induction t using Tm.ind' with
  | h t ih =>
    intro m hm1 hm2
    refine AFn.small fun hs => AFn.of (s38 ?_)
    rw [Smalls] at hs
    have hs := Tm.small (Tm.small_d hs.1)
    unfold A38
    (refine a_bxv fun z1 => ?_; refine a_fld ?_; (apply a_ld1 0; exact rfl; exact rfl); refine Tm.a_len ?_)
    refine a_lp2 (σ := Int) (τ := Nat) (fun n i => [.i n, .i i]) (fun _ _ => [⟨z1, t.cs, .box⟩]) (fun n i => i ≤ t.a.length ∧ 0 ≤ n ∧ n ≤ m - 1 ∧ deepL (t.a.drop i) (m - 1) n = deepL t.a (m - 1) 0) (fun _ i => t.a.length - i) 0 0 (by first | exact Gl.refl _ _ | exact Gl.drop (by repeat (first | exact List.Sublist.refl _ | exact List.Sublist.slnil | apply List.Sublist.cons_cons | apply List.Sublist.cons))) ⟨Nat.zero_le _, by omega, by omega, rfl⟩ ?_
    rintro n i K ⟨hi, hn0, hn1, hd⟩ hK
    dsimp only [aix0, aix1, aix2, aix3, aix4, aix5, aix6, aix7, aix8]
    (refine a_lss ?_)
    refine a_cnd (fun h => ?_) (fun h => ?_)
    · rw [List.drop_eq_getElem_cons (by omega), deepL] at hd
      refine Tm.a_idx i (by omega) ?_
      ((apply a_ldAp; exact rfl); refine a_bx fun z2 => ?_; refine a_stA 0 rfl rfl rfl rfl ?_; refine a_sub (by first | omega | assumption | decide) (by first | omega | assumption | decide) ?_; refine a_eql ?_)
      refine a_cnd (fun h2 => ?_) (fun h2 => ?_)
      · (refine a_add (by first | omega | assumption | decide) (by first | omega | assumption | decide) ?_)
        rw [if_pos h2] at hd
        exact ret_i (by rw [deepT_eq, ← hd])
      · rw [if_neg h2] at hd
        have hb := deepT_bound t.a[i] (m - 1) (by omega)
        ((apply a_ldA 0; exact rfl; exact rfl); refine a_sub (by first | omega | assumption | decide) (by first | omega | assumption | decide) ?_)
        refine a_call0 (ih _ (List.getElem_mem _) _ (by omega) (by omega)) ?_
        (refine a_max ?_; refine a_add (by first | omega | assumption | decide) (by first | omega | assumption | decide) ?_)
        exact hK _ (i + 1) _ _ ⟨by omega, by omega, by omega, hd⟩ (by omega) (by first | exact Gl.refl _ _ | exact Gl.drop (by repeat (first | exact List.Sublist.refl _ | exact List.Sublist.slnil | apply List.Sublist.cons_cons | apply List.Sublist.cons)))
    · rw [List.drop_eq_nil_of_le (by omega), deepL] at hd
      (refine a_add (by first | omega | assumption | decide) (by first | omega | assumption | decide) ?_)
      exact ret_i (by rw [deepT_eq, ← hd])
theorem c16 (t : Tm) : AFn pr 16 [t.d] [] (.ret (.i (deepT t 101))) := by
  refine AFn.of (s16 ?_)
  unfold A16
  (refine a_bxv fun z1 => ?_; (apply a_ldA 0; exact rfl; exact rfl); refine a_call0 (c38 _ _ (by first | omega | assumption | decide) (by first | omega | assumption | decide)) ?_)
  rfl

theorem c33 (t : Tm) : ∀ {b : Nat} {s d dp : Int}, 0 ≤ s → s ≤ 2000 → 1 ≤ dp → dp ≤ 101 →
    AUp pr 33 [.p b 0, t.d, .i dp] [⟨b, [.i s, .i d], .box⟩] (.ret (.tuple [])) [⟨b, [.i (ofT t dp s d).1, .i (ofT t dp s d).2], .box⟩] := by
  induction t using Tm.ind' with
  | h t ih =>
    intro b s d dp hs0 hs1 hd0 hd1
    refine ASpec.small fun hsm => AUp.of (s33 ?_)
    rw [Smalls, Smalls] at hsm
    have hs := Tm.small (Tm.small_d hsm.2.1)
    unfold A33
    (refine a_bxv fun z1 => ?_; refine a_nil ?_; refine a_fld ?_; (apply a_ld1 1; exact rfl; exact rfl); refine a_add (by first | omega | assumption | decide) (by first | omega | assumption | decide) ?_; refine a_nil ?_; refine a_fld ?_; (apply a_st 1 _; exact rfl; exact rfl; exact rfl; exact rfl; (try dsimp only [afill, aparts, cl, chunk, List.take, List.drop, List.nil_append, List.cons_append, List.append_nil, List.length_cons, List.length_nil, Nat.zero_add, Nat.reduceAdd, Nat.reduceMul]); try exact rfl); refine a_nil ?_; refine a_fld ?_; (apply a_ld1 1; exact rfl; exact rfl); refine a_max ?_; refine a_nil ?_; refine a_fld ?_; (apply a_st 1 _; exact rfl; exact rfl; exact rfl; exact rfl; (try dsimp only [afill, aparts, cl, chunk, List.take, List.drop, List.nil_append, List.cons_append, List.append_nil, List.length_cons, List.length_nil, Nat.zero_add, Nat.reduceAdd, Nat.reduceMul]); try exact rfl); refine a_fld ?_; (apply a_ld1 0; exact rfl; exact rfl); refine Tm.a_len ?_)
    refine a_lp3 (σ := Nat) (τ := Int) (ρ := Int) (fun i _ _ => [.i i]) (fun _ x y => [⟨z1, t.cs, .box⟩, ⟨b, [.i x, .i y], .box⟩]) (fun i x y => i ≤ t.a.length ∧ 0 ≤ x ∧ x ≤ 2001 ∧ ofL (t.a.drop i) dp x y = ofL t.a dp (s + 1) (max d dp)) (fun i _ _ => t.a.length - i) 0 (s + 1) (max d dp) (by first | exact Gl.refl _ _ | exact Gl.drop (by repeat (first | exact List.Sublist.refl _ | exact List.Sublist.slnil | apply List.Sublist.cons_cons | apply List.Sublist.cons))) ⟨Nat.zero_le _, by omega, by omega, rfl⟩ ?_
    rintro i x y K ⟨hi, hx0, hx1, hd⟩ hK
    dsimp only [aix0, aix1, aix2, aix3, aix4, aix5, aix6, aix7, aix8]
    (refine a_lss ?_)
    refine a_cnd (fun h => ?_) (fun h => ?_)
    · rw [List.drop_eq_getElem_cons (by omega), ofL] at hd
      refine Tm.a_idx i (by omega) ?_
      ((apply a_ldAp; exact rfl); refine a_bx fun z2 => ?_; refine a_stA 0 rfl rfl rfl rfl ?_; refine a_nil ?_; refine a_fld ?_; (apply a_ld1 2; exact rfl; exact rfl); refine a_gtr ?_)
      refine a_cnd (fun h2 => ?_) (fun h2 => ?_)
      · rw [if_pos (Or.inl h2)] at hd
        refine ⟨rfl, ?_⟩
        rw [ofT_eq, ← hd]
        exact (by repeat (first | exact List.Sublist.refl _ | exact List.Sublist.slnil | apply List.Sublist.cons_cons | apply List.Sublist.cons))
      (refine a_gtr ?_)
      refine a_cnd (fun h3 => ?_) (fun h3 => ?_)
      · rw [if_pos (Or.inr h3)] at hd
        refine ⟨rfl, ?_⟩
        rw [ofT_eq, ← hd]
        exact (by repeat (first | exact List.Sublist.refl _ | exact List.Sublist.slnil | apply List.Sublist.cons_cons | apply List.Sublist.cons))
      rw [if_neg (fun h => h.elim h2 h3)] at hd
      have hb := ofT_bound t.a[i] (dp + 1) x y (by omega) (by omega)
      ((apply a_ldA 0; exact rfl; exact rfl); refine a_add (by first | omega | assumption | decide) (by first | omega | assumption | decide) ?_)
      refine a_callU 2 rfl (ih _ (List.getElem_mem _) (by omega) (by omega) (by omega) (by omega)) ?_
      dsimp only [AE.on]
      (refine a_add (by first | omega | assumption | decide) (by first | omega | assumption | decide) ?_)
      exact hK (i + 1) _ _ _ _ ⟨by omega, hb.1, hb.2, hd⟩ (by omega) (by first | exact Gl.refl _ _ | exact Gl.drop (by repeat (first | exact List.Sublist.refl _ | exact List.Sublist.slnil | apply List.Sublist.cons_cons | apply List.Sublist.cons)))
    · rw [List.drop_eq_nil_of_le (by omega), ofL] at hd
      refine ⟨rfl, ?_⟩
      rw [ofT_eq, ← hd]
      exact (by repeat (first | exact List.Sublist.refl _ | exact List.Sublist.slnil | apply List.Sublist.cons_cons | apply List.Sublist.cons))
theorem c32 (t : Tm) : ∀ {bn bc : Nat} {n : Int}, 0 ≤ n → n ≤ 2000 →
    AUp pr 32 [t.d, .p bn 0, .p bc 0] [⟨bc, [.fn 32 [] [.p bn 0, .p bc 0]], .box⟩, ⟨bn, [.i n], .box⟩] (.ret (.tuple [])) [⟨bc, [.fn 32 [] [.p bn 0, .p bc 0]], .box⟩, ⟨bn, [.i (sizT t n)], .box⟩] := by
  induction t using Tm.ind' with
  | h t ih =>
    intro bn bc n hn0 hn1
    refine ASpec.small fun hsm => AUp.of (s32 ?_)
    rw [Smalls] at hsm
    have hs := Tm.small (Tm.small_d hsm.1)
    unfold A32
    (refine a_bxv fun z1 => ?_; (apply a_ld1 2; exact rfl; exact rfl); refine a_add (by first | omega | assumption | decide) (by first | omega | assumption | decide) ?_; (apply a_st 2 _; exact rfl; exact rfl; exact rfl; exact rfl; (try dsimp only [afill, aparts, cl, chunk, List.take, List.drop, List.nil_append, List.cons_append, List.append_nil, List.length_cons, List.length_nil, Nat.zero_add, Nat.reduceAdd, Nat.reduceMul]); try exact rfl); (apply a_ld1 2; exact rfl; exact rfl); refine a_gtr ?_)
    refine a_cnd (fun h => ?_) (fun h => ?_)
    · refine ⟨rfl, ?_⟩
      rw [sizT_eq, if_pos h]
      exact (by repeat (first | exact List.Sublist.refl _ | exact List.Sublist.slnil | apply List.Sublist.cons_cons | apply List.Sublist.cons))
    rw [sizT_eq, if_neg h]
    (refine a_fld ?_; (apply a_ld1 0; exact rfl; exact rfl); refine Tm.a_len ?_)
    refine a_lp2 (σ := Nat) (τ := Int) (fun i _ => [.i i]) (fun _ x => [⟨z1, t.cs, .box⟩, ⟨bc, [.fn 32 [] [.p bn 0, .p bc 0]], .box⟩, ⟨bn, [.i x], .box⟩]) (fun i x => i ≤ t.a.length ∧ 0 ≤ x ∧ x ≤ 2001 ∧ sizL (t.a.drop i) x = sizL t.a (n + 1)) (fun i _ => t.a.length - i) 0 (n + 1) (by first | exact Gl.refl _ _ | exact Gl.drop (by repeat (first | exact List.Sublist.refl _ | exact List.Sublist.slnil | apply List.Sublist.cons_cons | apply List.Sublist.cons))) ⟨Nat.zero_le _, by omega, by omega, rfl⟩ ?_
    rintro i x K ⟨hi, hx0, hx1, hd⟩ hK
    dsimp only [aix0, aix1, aix2, aix3, aix4, aix5, aix6, aix7, aix8]
    (refine a_lss ?_)
    refine a_cnd (fun h => ?_) (fun h => ?_)
    · rw [List.drop_eq_getElem_cons (by omega), sizL] at hd
      refine Tm.a_idx i (by omega) ?_
      ((apply a_ldAp; exact rfl); refine a_bx fun z2 => ?_; refine a_stA 0 rfl rfl rfl rfl ?_; (apply a_ld1 3; exact rfl; exact rfl); refine a_leq ?_)
      refine a_cnd (fun h2 => ?_) (fun h2 => ?_)
      · rw [if_pos h2] at hd
        have hb := sizT_bound t.a[i] x (by omega) (by omega)
        ((apply a_ld1 2; exact rfl; exact rfl); (apply a_ldA 0; exact rfl; exact rfl); refine a_cfW ?_)
        refine a_callB 2 rfl (ih _ (List.getElem_mem _) (by omega) (by omega)) ?_
        dsimp only [AE.on]
        (refine a_add (by first | omega | assumption | decide) (by first | omega | assumption | decide) ?_)
        exact hK (i + 1) _ _ _ ⟨by omega, by omega, by omega, hd⟩ (by omega) (by first | exact Gl.refl _ _ | exact Gl.drop (by repeat (first | exact List.Sublist.refl _ | exact List.Sublist.slnil | apply List.Sublist.cons_cons | apply List.Sublist.cons)))
      · rw [if_neg h2] at hd
        (refine a_add (by first | omega | assumption | decide) (by first | omega | assumption | decide) ?_)
        exact hK (i + 1) _ _ _ ⟨by omega, by omega, by omega, hd⟩ (by omega) (by first | exact Gl.refl _ _ | exact Gl.drop (by repeat (first | exact List.Sublist.refl _ | exact List.Sublist.slnil | apply List.Sublist.cons_cons | apply List.Sublist.cons)))
    · rw [List.drop_eq_nil_of_le (by omega), sizL] at hd
      refine ⟨rfl, ?_⟩
      rw [← hd]
      exact (by repeat (first | exact List.Sublist.refl _ | exact List.Sublist.slnil | apply List.Sublist.cons_cons | apply List.Sublist.cons))
theorem c13 (t : Tm) : AFn pr 13 [t.d] [] (.ret (.i (sizT t 0))) := by
  refine AFn.of (s13 ?_)
  unfold A13
  (refine a_bxv fun z1 => ?_; refine a_bx fun z2 => ?_; (apply a_st 0 _; exact rfl; exact rfl; exact rfl; exact rfl; (try dsimp only [afill, aparts, cl, chunk, List.take, List.drop, List.nil_append, List.cons_append, List.append_nil, List.length_cons, List.length_nil, Nat.zero_add, Nat.reduceAdd, Nat.reduceMul]); try exact rfl); refine a_bx fun z3 => ?_; (apply a_st 0 _; exact rfl; exact rfl; exact rfl; exact rfl; (try dsimp only [afill, aparts, cl, chunk, List.take, List.drop, List.nil_append, List.cons_append, List.append_nil, List.length_cons, List.length_nil, Nat.zero_add, Nat.reduceAdd, Nat.reduceMul]); try exact rfl); (apply a_ld1 0; exact rfl; exact rfl); (apply a_ldA 2; exact rfl; exact rfl); refine a_cfW ?_)
  refine a_callA 2 rfl (c32 t (by omega) (by omega)) ?_
  dsimp only [AE.on]
  ((apply a_ld1 1; exact rfl; exact rfl))
  rfl
end Go.Proofs.YtaigilchnadmpaaDoor
