/- Contracts of layer 19: HornSteps. -/
import Derived.Test.YtdalobojhfafbaaGreatDoorC83
set_option maxRecDepth 100000
set_option linter.unusedVariables false
namespace Go.Proofs.YtdalobojhfafbaaGreatDoor
open Go Go.V
theorem c11 (p : Pr) (q : Tm) (nodes : Int) (l : List Stp) : AFn pr 11 [p.d, q.d, .i nodes, .row 3 (l.map Stp.cs)] [] (.ret (.b true)) := by
  refine AFn.small fun hsm => AFn.ofGe (s11 ?_)
  unfold A11
  refine a_bxv fun z1 => ?_
  refine a_bxv fun z2 => ?_
  refine a_call0 c29 ?_
  refine a_andTo 7 (by decide) fun m hm => ?_
  (refine a_add (by first | omega | assumption | decide) (by first | omega | assumption | decide) ?_; (apply a_ldA 1; exact rfl; exact rfl))
  refine new_call (M := [⟨z2, q.cs, .box⟩, ⟨z1, p.cs, .box⟩]) (List.Perm.refl _) (fun e he => ?_) fun S bs L0 he r0 => ?_
  · (apply a_ext; exact rfl); (apply a_ext; exact rfl)
    apply a_jn0
    intro J
    refine a_neq ?_
    refine a_cnd (fun q => ?_) (fun q => ?_)
    · exact ge_drop _ _
    · refine a_eqNil ?_
      (refine a_cndbT rfl ?_)
      exact ge_drop _ _
  · obtain ⟨hp, h1, h2, hS, hl, hin⟩ := New_ok he
    have h60 := keyP_len hp
    have hfew := ((fewB_iff p).1 hp.few)
    have h32 := hfew.1.2.1
    clear he hl hin
    (apply a_ext; exact rfl); (apply a_ext; exact rfl)
    refine a_jn (σ := Unit) (fun _ => []) (fun _ => L0 ++ [⟨z2, q.cs, .box⟩, ⟨z1, p.cs, .box⟩]) (fun _ => True) ?_ fun J hJ => ?_
    · intro _ _
      refine a_lp (σ := Nat × Sm × List Bx) (fun x => [.i x.1]) (fun x => x.2.2 ++ [⟨z2, q.cs, .box⟩, ⟨z1, p.cs, .box⟩]) (fun x => x.1 ≤ l.length ∧ SOk p (1 + (m : Int)) x.2.1 ∧ SimR bs x.2.1 x.2.2) (fun x => l.length - x.1) (0, S, L0) (Gl.refl _ _) ⟨Nat.zero_le _, hS, r0⟩ ?_
      clear hS r0 S L0
      rintro ⟨i, S, L0⟩ K ⟨hi, hS, r0⟩ hK
      dsimp only at hi hS r0 hK ⊢
      dsimp only [aix0, aix1, aix2, aix3, aix4, aix5, aix6, aix7, aix8]
      refine a_jn (σ := Unit) (fun _ => []) (fun _ => L0 ++ [⟨z2, q.cs, .box⟩, ⟨z1, p.cs, .box⟩]) (fun _ => i < l.length ∧ i < 40) ?_ fun J hJ => ?_
      · rintro _ ⟨hlt, h40⟩
        have hn60 : S.w.names.length = (keyP p).length := keys_len hS.w.keys
        refine a_callR (world_at [] _ hS hp r0) ?_
        (refine a_bx fun z3 => ?_; refine a_stA 0 rfl rfl rfl rfl ?_; (refine a_cN ?_; apply a_ldrA 1; exact rfl; exact rfl))
        refine a_idxM i hlt ?_
        (apply a_ldAp; exact rfl)
        refine a_callF (L1 := L0) (M := [⟨z3, S.w.cs, .box⟩, ⟨z2, q.cs, .box⟩, ⟨z1, p.cs, .box⟩]) List.perm_middle.symm (c32 hp hS h1 h2 r0 l[i]) ?_
        rintro a L1 ⟨S', hI, node, rfl, r1, hS', hdone⟩
        simp only [AE.on]
        have hout : ∀ A : List Bx, K [.i ((i : Int) + 1)] (A ++ (L1 ++ [⟨z3, S.w.cs, .box⟩, ⟨z2, q.cs, .box⟩, ⟨z1, p.cs, .box⟩])) := fun A => hK (i + 1, S', L1) _ _ ⟨by dsimp only; omega, hS', r1⟩ (by dsimp only; omega) (Gl.drop ((List.Sublist.append_left (.cons _ (List.Sublist.refl _)) _).trans (List.sublist_append_right _ _)))
        ((apply a_ext; exact rfl); (apply a_ext; exact rfl); refine a_lss ?_)
        refine a_cnd (fun c => ?_) (fun c => ?_)
        · (refine a_add (by first | omega | assumption | decide) (by first | omega | assumption | decide) ?_)
          exact hout []
        · rcases hdone with hd | ⟨j, hj, pd, rfl, g1, g2, g3, g4, g5⟩
          · exact absurd hd c
          have hF := c33 p j q
          have hval := fun he => step_value (q := q) hj hp h1 h2 hS g1 g2 hS' g3 g4 g5 he
          have hW := c34 S.w p.hs[j].node (nodeV node) (smallW_of hS.w.right) (by omega) (Nat.zero_le _)
          rw [show withF S.w p.hs[j].node (nodeV node) = dueW S.w p.hs[j] node from rfl] at hW
          have hih : ∀ {kk : D → Prop}, kk (.pin (Ha.cs p.hs[j])) → aidxS 9 (.row 9 (p.hs.map Ha.cs)) (.i j) kk := fun h => a_idxM j hj h
          have hE1 := c31 (StepF p j q).1 (dueW S.w p.hs[j] node)
          have hE2 := c31 q S'.w
          have hE3 := c31 (aheadT p.hs[j]) (dueW S.w p.hs[j] node)
          generalize dueW S.w p.hs[j] node = u at *
          generalize aheadT p.hs[j] = A at *
          have hfe := hval
          ((apply a_ldrA 2; exact rfl; exact rfl); (apply a_ldrA 1; exact rfl; exact rfl); refine a_call0 hF ?_; (apply a_ext; exact rfl); (apply a_ext; exact rfl); refine a_bx fun z4 => ?_; refine a_stA 0 rfl rfl rfl rfl ?_; refine a_neq ?_)
          refine a_cnd (fun c2 => ?_) (fun c2 => ?_)
          · (refine a_add (by first | omega | assumption | decide) (by first | omega | assumption | decide) ?_)
            exact hout [_]
          · have e0 := Decidable.of_not_not c2
            obtain ⟨B, v1, v2, v3, v4⟩ := hval e0
            clear hval hfe c2 e0 hF
            generalize StepF p (j : Int) q = f at *
            obtain ⟨ft, fe⟩ := f
            dsimp only at v1 v3 v4 hE1 ⊢
            subst v1
            rw [v2] at hE3
            generalize evalF (mk 21 [A, B]) u = w1 at *
            generalize evalF q S'.w = w2 at *
            obtain ⟨⟨xs, xn, xb, xl⟩, xe⟩ := w1
            obtain ⟨⟨bs2, bn, bb, bl⟩, be⟩ := w2
            dsimp only at v3 v4 hE1 hE2
            subst v3 v4
            generalize p.hs[j] = hd at *
            obtain ⟨timer, hn, hnode, ⟨ho, hs2, hn2, ha⟩, dos, send⟩ := hd
            dsimp only at hW
            have hWo := fun X => world_at X [⟨z3, S.w.cs, .box⟩, ⟨z2, q.cs, .box⟩, ⟨z1, p.cs, .box⟩] hS' hp r1
            have hrow : ∀ {kk : D → Prop}, kk (.pin A.cs) → aidxS 4 (.row 4 (Tm.rows [A, B])) (.i 0) kk := fun h => by
              obtain ⟨ao, as2, an2, aa⟩ := A
              exact V.a_idx 0 _ rfl h
            unfold mk at hE1 ⊢
            have hbb : (!(xb == xb)) = false := by cases xb <;> rfl
            ((refine a_cN ?_; apply a_ldrA 0; exact rfl; exact rfl); refine a_fld ?_; (refine a_c1 ?_; apply a_ldr1 2; exact rfl; exact rfl); refine hih ?_; refine a_fldp ?_; (apply a_ld1p; exact rfl); refine a_bldV0 rfl rfl ?_; refine a_callS0 hW ?_; refine a_bx fun z5 => ?_; refine a_stA 0 rfl rfl rfl rfl ?_; (apply a_ldA 1; exact rfl; exact rfl); (apply a_ldA 0; exact rfl; exact rfl); refine a_call0 hE1 ?_; (apply a_ext; exact rfl); (apply a_ext; exact rfl); refine a_bx fun z6 => ?_; refine a_stA 0 rfl rfl rfl rfl ?_; (refine a_cN ?_; refine a_cN ?_; refine a_cN ?_; apply a_ldrA 1; exact rfl; exact rfl); refine a_callSR (hWo [_, _, _]) ?_; refine a_callS0 hE2 ?_; (apply a_ext; exact rfl); (apply a_ext; exact rfl); refine a_bx fun z7 => ?_; refine a_stA 0 rfl rfl rfl rfl ?_; refine a_fld ?_; (apply a_ld1 3; exact rfl; exact rfl); refine hrow ?_; (apply a_ldAp; exact rfl); (apply a_ldA 2; exact rfl; exact rfl); refine a_callS0 hE3 ?_; (apply a_ext; exact rfl); (apply a_ext; exact rfl); refine a_bx fun z8 => ?_; refine a_stA 0 rfl rfl rfl rfl ?_; refine a_neq ?_; refine a_cndbF rfl ?_; refine a_fld ?_; (apply a_ld1 0; exact rfl; exact rfl); refine a_not ?_; refine a_cndbF rfl ?_; refine a_fld ?_; (apply a_ld1 2; exact rfl; exact rfl); refine a_fld ?_; (apply a_ld1 1; exact rfl; exact rfl); refine a_neqB ?_; refine a_cndbF (by first | omega | assumption | decide) ?_; refine a_neq ?_; refine a_cndF (by first | omega | assumption | decide) ?_; refine a_add (by first | omega | assumption | decide) (by first | omega | assumption | decide) ?_)
            exact hout [_, _, _, _, _]
      · (refine a_lenM ?_; refine a_lss ?_)
        refine a_cnd (fun q => ?_) (fun q => ?_)
        · (refine a_lss ?_)
          refine a_cnd (fun q2 => ?_) (fun q2 => ?_)
          · exact hJ () _ _ ⟨by omega, by omega⟩ (Gl.refl _ _)
          · exact ge_drop _ _
        · exact ge_drop _ _
    · refine a_neq ?_
      refine a_cndF (by decide) ?_
      refine a_eqOwn ?_
      refine a_cndbF rfl ?_
      exact hJ () _ _ trivial (Gl.refl _ _)
end Go.Proofs.YtdalobojhfafbaaGreatDoor
