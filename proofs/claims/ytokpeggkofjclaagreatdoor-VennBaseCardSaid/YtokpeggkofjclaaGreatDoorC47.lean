/- The laws VennHolds and VennBase. -/
import Derived.Test.YtokpeggkofjclaaGreatDoorC46
import Derived.Test.YtokpeggkofjclaaGreatDoorM25
import Derived.Test.YtokpeggkofjclaaGreatDoorM7
set_option maxRecDepth 100000
set_option linter.unusedVariables false
namespace Go.V
open Go
theorem count_nz {p : Pl} {w : Wd} (h : (CountF p w).2 = 0) : CountF p w = ((CountF p w).1, 0) := Prod.ext rfl h
theorem holds_law {t : Tm} {b : Bool} {w : Wd} (h0 : (MakeF t).2 = 0) (ho : t.op = 22) (f : (CountF (MakeF t).1 w).2 = 0) (g : (RowF (MakeF t).1 t b).2 = 0) (e : (evalF t w).2 = 0)
    (ok : (HoldsF (RowF (MakeF t).1 t b).1 (CountF (MakeF t).1 w).1).2 = true) : (HoldsF (RowF (MakeF t).1 t b).1 (CountF (MakeF t).1 w).1).1 = ((evalF t w).1.b == b) := by
  obtain ⟨hs, _, _⟩ := MakeF_plan h0
  obtain ⟨rg, hC⟩ := CountF_spec (by have := MakeF_ok t; omega) (count_nz f)
  obtain ⟨_, _, hr, _⟩ := sortF_ok hs
  have hev := evalF_of hC.right (Prod.ext rfl hs : sortF t = (_, 0))
  cases t with | mk op nm n a =>
  have ho : op = 22 := ho
  subst ho
  obtain ⟨x, y, rfl, _, _⟩ := right2 hr (s1 := 1) (s2 := 1) rfl rfl
  obtain ⟨rfl, rfl⟩ := right_bare hr rfl rfl
  cases hv : evV w (.mk 22 ⟨#[]⟩ 0 [x, y]) with
  | error er =>
    rw [hv] at hev
    rw [hev] at e
    have e : er = 0 := e
    subst e
    have := evV_err _ _ hv
    omega
  | ok v =>
    rw [hv] at hev
    rw [hev]
    exact row_holds hC (Prod.ext rfl g) hv ok
theorem base_mem {p : Pl} {r : Rw} (h : r ∈ BaseF p) : r.c.length = p.unk ∧ ((∃ i, r = rowF p (-1) 0 (eqR i)) ∨ r = rowF p (-1) 1 (fun _ => true) ∨ ∃ j, j < p.nodes.length ∧ (r = rowF p 1 (-1) (fun x => inB x (p.sets.length + j)) ∨ r = rowF p (-1) 1 fun x => inB x (p.sets.length + j))) := by
  have h2 : ∀ n, n ≤ p.nodes.length → r ∈ base2 p n → ∃ j, j < p.nodes.length ∧ (r = rowF p 1 (-1) (fun x => inB x (p.sets.length + j)) ∨ r = rowF p (-1) 1 fun x => inB x (p.sets.length + j)) := by
    intro n
    induction n with
    | zero => intro _ h; cases h
    | succ n ih =>
      intro hn h
      rw [base2, List.mem_append] at h
      rcases h with h | h
      · exact ih (by omega) h
      · simp only [List.mem_cons, List.not_mem_nil, or_false] at h
        exact ⟨n, by omega, h⟩
  unfold BaseF at h
  rw [List.mem_append, List.mem_append] at h
  rcases h with (h | h) | h
  · unfold base1 at h
    obtain ⟨i, _, rfl⟩ := List.mem_map.1 h
    exact ⟨rowF_len .., .inl ⟨i, rfl⟩⟩
  · rw [List.mem_singleton] at h
    subst h
    exact ⟨rowF_len .., .inr (.inl rfl)⟩
  · obtain ⟨j, hj, h⟩ := h2 _ (Nat.le_refl _) h
    refine ⟨?_, .inr (.inr ⟨j, hj, h⟩)⟩
    rcases h with rfl | rfl <;> exact rowF_len ..
theorem base_law {p : Pl} {w : Wd} (h6 : p.circ ≤ 6) (f : (CountF p w).2 = 0) {r : Rw} (h : r ∈ BaseF p) : HoldsF r ((CountF p w).1.take p.reg) = (true, true) := by
  obtain ⟨rg, hC⟩ := CountF_spec h6 (count_nz f)
  obtain ⟨_, h⟩ := base_mem h
  rcases h with ⟨i, rfl⟩ | rfl | ⟨j, hj, rfl | rfl⟩
  · exact base_one hC _
  · exact base_all hC
  · exact base_up hC hj
  · exact base_down hC hj
theorem BaseF_len (p : Pl) : (BaseF p).length = p.reg + 1 + 2 * p.nodes.length := by
  unfold BaseF
  rw [List.length_append, List.length_append, base1_len, base2_len]; rfl
theorem CountF_len {p : Pl} {w : Wd} (h6 : p.circ ≤ 6) (f : (CountF p w).2 = 0) : (CountF p w).1.length = p.unk := by
  obtain ⟨rg, hC⟩ := CountF_spec h6 (count_nz f)
  exact hC.unk
end Go.V
namespace Go.Proofs.YtokpeggkofjclaaGreatDoor
open Go Go.V
theorem c8 (t : Tm) (b : Bool) (w : Wd) : AFn pr 8 [t.d, .b b, w.d] [] (.ret (.b true)) := by
  refine AFn.of (s8 ?_)
  unfold A8
  have hp := MakeF_Ok t
  have h6 := (MakeF_ok t).1
  refine a_bxv fun z1 => ?_
  refine a_bxv fun z2 => ?_
  (refine a_call0 c9 ?_; (apply a_ldA 1; exact rfl; exact rfl); refine a_call0 (c10 t) ?_; (apply a_ext; exact rfl); (apply a_ext; exact rfl); refine a_bx fun z3 => ?_; refine a_stA 0 rfl rfl rfl rfl ?_)
  refine a_jn (σ := Unit) (fun _ => []) (fun _ => [⟨z3, (MakeF t).1.cs, .box⟩, ⟨z2, w.cs, .box⟩, ⟨z1, t.cs, .box⟩]) (fun _ => (MakeF t).2 = 0 ∧ t.op = 22) ?_ fun J hJ => ?_
  · rintro _ ⟨h0, ho⟩
    have cR := row_own_code (b := b) h0 ho
    have hlaw := holds_law (b := b) (w := w) h0 ho
    have hR := c13 hp t b
    have hC := c15 hp h6 w
    have hE := c29 t w
    have hla : (RowF (MakeF t).1 t b).1.c.length ≤ 1000064 := RowF_len hp t b
    generalize (MakeF t).1 = p at *
    generalize RowF p t b = r at *
    generalize CountF p w = l at *
    generalize evalF t w = v at *
    have hH := c28 r.1 l.1 hla
    ((apply a_ldA 0; exact rfl; exact rfl); (apply a_ldA 1; exact rfl; exact rfl); refine a_call0 hC ?_; (apply a_ext; exact rfl); (apply a_ext; exact rfl); (apply a_ldA 0; exact rfl; exact rfl); (apply a_ldA 2; exact rfl; exact rfl); refine a_call0 hR ?_; (apply a_ext; exact rfl); (apply a_ext; exact rfl); refine a_bx fun z4 => ?_; refine a_stA 0 rfl rfl rfl rfl ?_; (apply a_ldA 3; exact rfl; exact rfl); (apply a_ldA 2; exact rfl; exact rfl); refine a_call0 hE ?_; (apply a_ext; exact rfl); (apply a_ext; exact rfl); refine a_bx fun z5 => ?_; refine a_stA 0 rfl rfl rfl rfl ?_)
    refine a_jn (σ := Unit) (fun _ => []) (fun _ => [⟨z5, v.1.cs, .box⟩, ⟨z4, r.1.cs, .box⟩, ⟨z3, p.cs, .box⟩, ⟨z2, w.cs, .box⟩, ⟨z1, t.cs, .box⟩]) (fun _ => l.2 = 0 ∧ r.2 = 0 ∧ v.2 = 0) ?_ fun J2 hJ2 => ?_
    · rintro _ ⟨q1, q2, q3⟩
      have hlaw := hlaw q1 q2 q3
      generalize HoldsF r.1 l.1 = hh at *
      ((apply a_ldA 1; exact rfl; exact rfl); refine a_call0 hH ?_; (apply a_ext; exact rfl); (apply a_ext; exact rfl); refine a_cndbT rfl ?_; refine a_not ?_)
      cases hok : hh.2 with
      | false => ((apply a_jnX; intro J hJ); refine a_cndbT rfl ?_; exact hJ; dsimp only [aix0, aix1, aix2, aix3, aix4, aix5, aix6, aix7, aix8])
      | true =>
        have := hlaw hok
        ((apply a_jnX; intro J hJ); refine a_cndbF rfl ?_; refine a_fld ?_; (apply a_ld1 0; exact rfl; exact rfl); refine a_eqlB ?_; refine a_eqlB ?_; exact hJ; dsimp only [aix0, aix1, aix2, aix3, aix4, aix5, aix6, aix7, aix8])
        rw [this]
        exact ret_b (by simp)
    · refine a_jn (σ := Bool) (fun c => [.b c]) (fun _ => [⟨z5, v.1.cs, .box⟩, ⟨z4, r.1.cs, .box⟩, ⟨z3, p.cs, .box⟩, ⟨z2, w.cs, .box⟩, ⟨z1, t.cs, .box⟩]) (fun c => c = false → l.2 = 0 ∧ r.2 = 0 ∧ v.2 = 0) ?_ fun J3 hJ3 => ?_
      · rintro c hc
        dsimp only [aix0, aix1, aix2, aix3, aix4, aix5, aix6, aix7, aix8]
        cases c with
        | false =>
          (refine a_cndbF rfl ?_)
          exact hJ2 () _ _ (hc rfl) (by first | exact Gl.refl _ _ | exact Gl.drop (by repeat (first | exact List.Sublist.refl _ | exact List.Sublist.slnil | apply List.Sublist.cons_cons | apply List.Sublist.cons)))
        | true =>
          (refine a_cndbT rfl ?_; refine a_cndbT rfl ?_; refine a_neq ?_)
          refine a_cnd (fun q => ?_) (fun q => ?_)
          · ((apply a_jnX; intro J hJ); exact hJ; dsimp only [aix0, aix1, aix2, aix3, aix4, aix5, aix6, aix7, aix8])
          · rcases cR with e | e
            · rw [e]; (refine a_eql ?_; (apply a_jnX; intro J hJ); refine a_cndbT rfl ?_; exact hJ; dsimp only [aix0, aix1, aix2, aix3, aix4, aix5, aix6, aix7, aix8])
            · rw [e]; (refine a_eql ?_; (apply a_jnX; intro J hJ); refine a_cndbF rfl ?_; refine a_eql ?_; exact hJ; dsimp only [aix0, aix1, aix2, aix3, aix4, aix5, aix6, aix7, aix8]); rfl
      · (refine a_neq ?_)
        refine a_cnd (fun q1 => ?_) (fun q1 => ?_)
        · exact hJ3 true _ _ (fun h => by cases h) (by first | exact Gl.refl _ _ | exact Gl.drop (by repeat (first | exact List.Sublist.refl _ | exact List.Sublist.slnil | apply List.Sublist.cons_cons | apply List.Sublist.cons)))
        · (refine a_neq ?_)
          refine a_cnd (fun q2 => ?_) (fun q2 => ?_)
          · exact hJ3 true _ _ (fun h => by cases h) (by first | exact Gl.refl _ _ | exact Gl.drop (by repeat (first | exact List.Sublist.refl _ | exact List.Sublist.slnil | apply List.Sublist.cons_cons | apply List.Sublist.cons)))
          · (refine a_neq ?_)
            refine hJ3 _ _ _ ?_ (Gl.refl _ _)
            intro h
            exact ⟨by omega, by omega, by simpa using h⟩
  · (refine a_neq ?_)
    refine a_cnd (fun q => ?_) (fun q => ?_)
    · rfl
    · (refine a_fld ?_; (apply a_ld1 2; exact rfl; exact rfl); refine a_neq ?_)
      refine a_cnd (fun q2 => ?_) (fun q2 => ?_)
      · rfl
      · exact hJ () _ _ ⟨by omega, by omega⟩ (by first | exact Gl.refl _ _ | exact Gl.drop (by repeat (first | exact List.Sublist.refl _ | exact List.Sublist.slnil | apply List.Sublist.cons_cons | apply List.Sublist.cons)))
theorem c4 (t : Tm) (w : Wd) : AFn pr 4 [t.d, w.d] [] (.ret (.b true)) := by
  refine AFn.of (s4 ?_)
  unfold A4
  have hp := MakeF_Ok t
  have h6 := (MakeF_ok t).1
  have hM := c10 t
  generalize MakeF t = P at *
  obtain ⟨p, e⟩ := P
  simp only at hp h6 hM
  have hreg := p.reg_pos
  have hru := reg_unk p
  have hunk := unk_le hp
  have hC := c15 hp h6 w
  have hB := c24 hp
  have hR := c19 p (by omega)
  have hU := c21 p (by omega) hp.ints
  have hlaw := fun (f : (CountF p w).2 = 0) r (h : r ∈ BaseF p) => base_law h6 f h
  have hlen := CountF_len (w := w) h6
  have hbl := BaseF_len p
  have hbu : ∀ r ∈ BaseF p, r.c.length = p.unk := fun r h => (base_mem h).1
  generalize CountF p w = l at *
  generalize BaseF p = B at *
  refine a_bxv fun z1 => ?_
  refine a_bxv fun z2 => ?_
  (refine a_call0 c9 ?_; (apply a_ldA 1; exact rfl; exact rfl); refine a_call0 hM ?_; (apply a_ext; exact rfl); (apply a_ext; exact rfl); refine a_bx fun z3 => ?_; refine a_stA 0 rfl rfl rfl rfl ?_; refine a_neq ?_)
  refine a_cnd (fun q => ?_) (fun q => ?_)
  · rfl
  ((apply a_ldA 0; exact rfl; exact rfl); (apply a_ldA 1; exact rfl; exact rfl); refine a_call0 hC ?_; (apply a_ext; exact rfl); (apply a_ext; exact rfl); refine a_neq ?_)
  refine a_cnd (fun q2 => ?_) (fun q2 => ?_)
  · rfl
  ((apply a_ldA 0; exact rfl; exact rfl); refine a_call0 hB ?_)
  have f0 : l.2 = 0 := by omega
  have hlaw := hlaw f0
  have hlen := hlen f0
  have hnn : p.nodes.length ≤ 6 := by unfold Pl.circ at h6; omega
  refine a_lp (σ := Nat) (fun i => [.i i]) (fun _ => [⟨z3, p.cs, .box⟩, ⟨z2, w.cs, .box⟩, ⟨z1, t.cs, .box⟩]) (fun i => i ≤ B.length) (fun i => B.length - i) 0 (by first | exact Gl.refl _ _ | exact Gl.drop (by repeat (first | exact List.Sublist.refl _ | exact List.Sublist.slnil | apply List.Sublist.cons_cons | apply List.Sublist.cons))) (Nat.zero_le _) ?_
  rintro i K hi hK
  dsimp only [aix0, aix1, aix2, aix3, aix4, aix5, aix6, aix7, aix8]
  refine a_lenM ?_
  refine a_lss ?_
  refine a_cnd (fun q3 => ?_) (fun q3 => ?_)
  · have hlt : i < B.length := by omega
    have h1 := hlaw _ (List.getElem_mem hlt)
    have h2 := hbu _ (List.getElem_mem hlt)
    have hH := c28 B[i] (l.1.take p.reg) (by omega)
    rw [h1] at hH
    refine a_idxM i hlt ?_
    ((apply a_ldAp; exact rfl); (apply a_ldA 0; exact rfl; exact rfl); refine a_callS0 hR ?_)
    refine a_slcMn p.reg (by omega) ?_
    refine a_callS0 hH ?_
    ((apply a_ext; exact rfl); (apply a_ext; exact rfl); refine a_not ?_; refine a_cndbF rfl ?_; refine a_not ?_; refine a_cndbF rfl ?_)
    refine a_idxM i hlt ?_
    (refine a_fldp ?_; (apply a_ld1p; exact rfl); refine a_lenM ?_; (apply a_ldA 0; exact rfl; exact rfl); refine a_callS0 hU ?_; refine a_neq ?_; refine a_cndF (by first | omega | assumption | decide) ?_; refine a_add (by first | omega | assumption | decide) (by first | omega | assumption | decide) ?_)
    exact hK (i + 1) _ _ (by omega) (by omega) (by first | exact Gl.refl _ _ | exact Gl.drop (by repeat (first | exact List.Sublist.refl _ | exact List.Sublist.slnil | apply List.Sublist.cons_cons | apply List.Sublist.cons)))
  · clear hK
    (refine a_cndbT rfl ?_; refine a_lenM ?_; (apply a_ldA 0; exact rfl; exact rfl); refine a_callS0 hR ?_; refine a_add (by first | omega | assumption | decide) (by first | omega | assumption | decide) ?_; refine a_fld ?_; (apply a_ld1 0; exact rfl; exact rfl); refine a_lenM ?_)
    refine a_mul (by omega) (by omega) ?_
    (refine a_add (by first | omega | assumption | decide) (by first | omega | assumption | decide) ?_; refine a_eql ?_)
    exact ret_b (decide_eq_true (by omega))
end Go.Proofs.YtokpeggkofjclaaGreatDoor
