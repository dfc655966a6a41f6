/- Contracts of layer 18: SimRight. -/
import Derived.Test.YtdalobojhfafbaaGreatDoorC79
set_option maxRecDepth 100000
set_option linter.unusedVariables false
namespace Go.Proofs.YtdalobojhfafbaaGreatDoor
open Go Go.V
section
variable {p : Pr} {n : Int} {bs : Nat} {S : Sm} {L : List Bx} {kp k : D → List Bx → Prop}
theorem does_call (N : List Bx) (hp : PrOk p) (hS : SOk p n S) (h1 : 1 ≤ n) (h2 : n ≤ 64) (r : SimR bs S L) (x : Stp) (hk : ∀ L', SimR bs ((doesF S x).getD S) L' → k (.b (doesF S x).isSome) (L' ++ N)) : acallW pr 15 [.p bs 0, .agg x.cs] (L ++ N) kp k := by
  refine a_callF (L1 := L) (M := N) (List.Perm.refl _) (c15 hp hS h1 h2 r x) ?_
  rintro a L' ⟨rfl, h⟩
  exact hk L' h
theorem world_at (A N : List Bx) (hS : SOk p n S) (hp : PrOk p) (r : SimR bs S L) : AFn pr 20 [.p bs 0] (A ++ (L ++ N)) (.ret S.w.d) :=
  AFn.frameM A (AFn.frameL N (world_abs r [] (smallW_of hS.w.right) (by rw [keys_len hS.w.keys]; have := keyP_len hp; omega)))
theorem pend_at (A N : List Bx) (hS : SOk p n S) (r : SimR bs S L) : AFn pr 22 [.p bs 0] (A ++ (L ++ N)) (.ret (.row 2 (S.l.map Pn.cs))) :=
  AFn.frameM A (AFn.frameL N (pend_abs r [] (by have := hS.few; omega)))
theorem get_at (hS : SOk p n S) {s : ByteArray} (hs : s ∈ p.msgs) : ∃ v : Vl, AFn pr 24 [S.w.d, .s s, .i 2] [] (.ret (.tuple [v.d, .b true])) ∧ v.s.length = n.toNat ∧ ∀ j, v.s.getD j false = bitW S.w s j := by
  obtain ⟨v, h1, _, h3, _⟩ := getF_is hS.w (keyP_msg hs)
  have hG := c24 S.w s 2 (smallW_of hS.w.right)
  have e : getD' S.w.names s 2 = .tuple [v.d, .b true] := by unfold getD'; rw [h1]; rfl
  rw [e] at hG
  exact ⟨v, hG, h3, fun j => by unfold bitW; rw [h1]; rfl⟩
end
theorem c4 (p : Pr) (nodes : Int) (l : List Stp) : AFn pr 4 [p.d, .i nodes, .row 3 (l.map Stp.cs)] [] (.ret (.b true)) := by
  refine AFn.small fun hsm => AFn.ofGe (s4 ?_)
  unfold A4
  refine a_bxv fun z1 => ?_
  refine a_call0 c12 ?_
  refine a_andTo 7 (by decide) fun m hm => ?_
  (refine a_add (by first | omega | assumption | decide) (by first | omega | assumption | decide) ?_; (apply a_ldA 0; exact rfl; exact rfl))
  refine new_call (M := [⟨z1, p.cs, .box⟩]) (List.Perm.refl _) (fun e he => ?_) fun S bs L0 he r0 => ?_
  · ((apply a_ext; exact rfl); (apply a_ext; exact rfl); (apply a_jn0; intro J); refine a_eqNil ?_; refine a_eqNil ?_)
    exact ge_drop _ _
  · obtain ⟨hp, h1, h2, hS, hl, hin⟩ := New_ok he
    have h60 := keyP_len hp
    have hfew := ((fewB_iff p).1 hp.few).1
    have hmsg := hfew.1.2.2.2
    clear he hl hin
    (apply a_ext; exact rfl); (apply a_ext; exact rfl)
    refine a_jn (σ := Unit) (fun _ => []) (fun _ => L0 ++ [⟨z1, p.cs, .box⟩]) (fun _ => True) ?_ fun J hJ => ?_
    · intro _ _
      refine a_callR (world_at [] _ hS hp r0) ?_
      (refine a_bx fun z2 => ?_; refine a_stA 0 rfl rfl rfl rfl ?_)
      refine a_lp (σ := Nat × Sm × List Bx) (fun x => [.i x.1]) (fun x => x.2.2 ++ [⟨z2, x.2.1.w.cs, .box⟩, ⟨z1, p.cs, .box⟩]) (fun x => x.1 ≤ l.length ∧ SOk p (1 + (m : Int)) x.2.1 ∧ SimR bs x.2.1 x.2.2) (fun x => l.length - x.1) (0, S, L0) ?_ ⟨Nat.zero_le _, hS, r0⟩ ?_
      · exact Gl.perm List.perm_middle.symm
      clear hS r0 S L0
      rintro ⟨i, S, L0⟩ K ⟨hi, hS, r0⟩ hK
      dsimp only at hi hS r0 hK ⊢
      dsimp only [aix0, aix1, aix2, aix3, aix4, aix5, aix6, aix7, aix8]
      refine a_jn (σ := Unit) (fun _ => []) (fun _ => L0 ++ [⟨z2, S.w.cs, .box⟩, ⟨z1, p.cs, .box⟩]) (fun _ => i < l.length ∧ i < 100) ?_ fun J hJ => ?_
      · rintro _ ⟨hlt, h100⟩
        have hn60 : S.w.names.length = (keyP p).length := keys_len hS.w.keys
        obtain ⟨hS', hmono⟩ := stepD_ok (x := l[i]) hp hS
        refine a_idxM i hlt ?_
        ((apply a_ldAp; exact rfl))
        refine does_call _ hp hS h1 h2 r0 l[i] fun L1 r1 => ?_
        generalize (doesF S l[i]).getD S = S' at *
        have hn61 : S'.w.names.length = (keyP p).length := keys_len hS'.w.keys
        have hRt := c23 S'.w
        rw [hS'.w.right] at hRt
        refine a_callR (world_at [] _ hS' hp r1) ?_
        (refine a_bx fun z3 => ?_; refine a_stA 0 rfl rfl rfl rfl ?_)
        refine a_callR (pend_at [_] _ hS' r1) ?_
        have h256 := hS'.few
        refine a_jn (σ := Unit) (fun _ => []) (fun _ => ⟨z3, S'.w.cs, .box⟩ :: (L1 ++ [⟨z2, S.w.cs, .box⟩, ⟨z1, p.cs, .box⟩])) (fun _ => True) ?_ fun J2 hJ2 => ?_
        · intro _ _
          refine a_lp (σ := Nat) (fun k => [.i k]) (fun _ => ⟨z3, S'.w.cs, .box⟩ :: (L1 ++ [⟨z2, S.w.cs, .box⟩, ⟨z1, p.cs, .box⟩])) (fun k => k ≤ S'.l.length) (fun k => S'.l.length - k) 0 (Gl.refl _ _) (Nat.zero_le _) ?_
          rintro k K2 hk hK2
          dsimp only [aix0, aix1, aix2, aix3, aix4, aix5, aix6, aix7, aix8]
          (refine a_lenM ?_; refine a_lss ?_)
          refine a_cnd (fun q => ?_) (fun q => ?_)
          · have hlt2 : k < S'.l.length := by omega
            obtain ⟨g1, g2, g3, g4⟩ := hS'.pend _ (List.getElem_mem hlt2)
            obtain ⟨v, hG, hvl, hvb⟩ := get_at hS' g1
            obtain ⟨vs, vn, vb, vl⟩ := v
            dsimp only at hvl hvb
            have hget : ∀ j (h : j < vl.length), vl.getD j false = vl[j] := fun j h => by rw [List.getD_eq_getElem?_getD, List.getElem?_eq_getElem h]; rfl
            generalize hy : S'.l[k] = y at *
            obtain ⟨yn, ynode⟩ := y
            dsimp only at g1 g2 g3 g4 hG hvb
            have hix : ∀ {kk : D → Prop}, kk (.pin [.s yn, .i ynode]) → aidxS 2 (.row 2 (S'.l.map Pn.cs)) (.i k) kk := fun h => by
              refine a_idxM k hlt2 ?_; rw [hy]; exact h
            have hiv : ∀ {kk : D → Prop}, kk (.pin (bc true)) → aidxS 1 (.row 1 (vl.map bc)) (.i ynode) kk := fun h => by
              have hlt3 : ynode.toNat < vl.length := by omega
              refine a_idxMz ynode.toNat (by omega) hlt3 ?_
              rw [← hget _ hlt3, hvb, g4]; exact h
            ((apply a_ldA 0; exact rfl; exact rfl); refine hix ?_; refine a_fldp ?_; (apply a_ld1p; exact rfl); refine a_callS0 hG ?_; (apply a_ext; exact rfl); (apply a_ext; exact rfl); refine a_bx fun z4 => ?_; refine a_stA 0 rfl rfl rfl rfl ?_; refine a_not ?_; refine hix ?_; refine a_fldp ?_; (apply a_ld1p; exact rfl); refine a_lss ?_; refine a_cndF (by first | omega | assumption | decide) ?_; refine hix ?_; refine a_fldp ?_; (apply a_ld1p; exact rfl); refine a_geq ?_; refine a_cndF (by first | omega | assumption | decide) ?_; refine a_fld ?_; (apply a_ld1 0; exact rfl; exact rfl); refine hix ?_; refine a_fldp ?_; (apply a_ld1p; exact rfl); refine hiv ?_; (apply a_ld1p; exact rfl); refine a_not ?_; refine a_cndbF rfl ?_; refine a_add (by first | omega | assumption | decide) (by first | omega | assumption | decide) ?_)
            exact hK2 (k + 1) _ _ (by omega) (by omega) (Gl.drop (List.sublist_cons_self _ _))
          · refine a_lp (σ := Nat) (fun k => [.i k]) (fun _ => ⟨z3, S'.w.cs, .box⟩ :: (L1 ++ [⟨z2, S.w.cs, .box⟩, ⟨z1, p.cs, .box⟩])) (fun k => k ≤ p.msgs.length) (fun k => p.msgs.length - k) 0 (Gl.refl _ _) (Nat.zero_le _) ?_
            clear q hk
            rintro k K3 hk hK3
            dsimp only [aix0, aix1, aix2, aix3, aix4, aix5, aix6, aix7, aix8]
            (refine a_fld ?_; (refine a_c1 ?_; apply a_ldr1 1; exact rfl; exact rfl); refine a_lenM ?_; refine a_lss ?_)
            refine a_cnd (fun q => ?_) (fun q => ?_)
            · have hlt2 : k < p.msgs.length := by omega
              obtain ⟨⟨os, on, ob, ol⟩, hG1, hal, hab⟩ := get_at hS (List.getElem_mem hlt2)
              obtain ⟨⟨us, un, ub, ul⟩, hG2, hul, hub⟩ := get_at hS' (List.getElem_mem hlt2)
              have hmo := hmono _ (List.getElem_mem hlt2)
              dsimp only at hal hab hul hub
              have hget : ∀ (vl : List Bool) j (h : j < vl.length), vl.getD j false = vl[j] := fun vl j h => by rw [List.getD_eq_getElem?_getD, List.getElem?_eq_getElem h]; rfl
              have hix : ∀ {kk : D → Prop}, kk (.pin [.s p.msgs[k]]) → aidxS 1 (.row 1 (sT p.msgs)) (.i k) kk := fun h => a_idxM k hlt2 h
              generalize p.msgs[k] = nm at *
              ((refine a_cN ?_; apply a_ldrA 0; exact rfl; exact rfl); refine a_fld ?_; (refine a_c1 ?_; apply a_ldr1 1; exact rfl; exact rfl); refine hix ?_; (apply a_ld1p; exact rfl); refine a_callS0 hG1 ?_; (apply a_ext; exact rfl); (apply a_ext; exact rfl); refine a_bx fun z4 => ?_; refine a_stA 0 rfl rfl rfl rfl ?_; (apply a_ldA 1; exact rfl; exact rfl); refine a_fld ?_; (refine a_c1 ?_; refine a_c1 ?_; apply a_ldr1 1; exact rfl; exact rfl); refine hix ?_; (apply a_ld1p; exact rfl); refine a_callS0 hG2 ?_; (apply a_ext; exact rfl); (apply a_ext; exact rfl); refine a_bx fun z5 => ?_; refine a_stA 0 rfl rfl rfl rfl ?_)
              refine a_lp (σ := Nat) (fun j => [.i j]) (fun _ => ⟨z5, [.i us, .i un, .b ub, .row 1 (ul.map bc)], .box⟩ :: ⟨z4, [.i os, .i on, .b ob, .row 1 (ol.map bc)], .box⟩ :: ⟨z3, S'.w.cs, .box⟩ :: (L1 ++ [⟨z2, S.w.cs, .box⟩, ⟨z1, p.cs, .box⟩])) (fun j => (j : Int) ≤ 1 + m) (fun j => 9 - j) 0 (Gl.refl _ _) (by omega) ?_
              rintro j K4 hj hK4
              dsimp only [aix0, aix1, aix2, aix3, aix4, aix5, aix6, aix7, aix8]
              (refine a_lss ?_)
              refine a_cnd (fun q2 => ?_) (fun q2 => ?_)
              · have hj1 : j < ol.length := by omega
                have hj2 : j < ul.length := by omega
                have hmj := hmo j
                rw [← hab, ← hub, hget _ _ hj1, hget _ _ hj2] at hmj
                have hi1 : ∀ {kk : D → Prop}, kk (.pin (bc ol[j])) → aidxS 1 (.row 1 (ol.map bc)) (.i j) kk := fun h => a_idxM j hj1 h
                have hi2 : ∀ {kk : D → Prop}, kk (.pin (bc ul[j])) → aidxS 1 (.row 1 (ul.map bc)) (.i j) kk := fun h => a_idxM j hj2 h
                (refine a_fld ?_; (apply a_ld1 1; exact rfl; exact rfl); refine hi1 ?_; (apply a_ld1p; exact rfl))
                generalize ol[j] = xa at *
                generalize ul[j] = xb at *
                cases xa with
                | true =>
                  obtain rfl : xb = true := hmj rfl
                  (refine a_cndbT rfl ?_; refine a_fld ?_; (apply a_ld1 0; exact rfl; exact rfl); refine hi2 ?_; (apply a_ld1p; exact rfl); refine a_not ?_; refine a_cndbF rfl ?_; refine a_add (by first | omega | assumption | decide) (by first | omega | assumption | decide) ?_)
                  exact hK4 (j + 1) _ _ (by omega) (by omega) (Gl.refl _ _)
                | false =>
                  (refine a_cndbF rfl ?_; refine a_add (by first | omega | assumption | decide) (by first | omega | assumption | decide) ?_)
                  exact hK4 (j + 1) _ _ (by omega) (by omega) (Gl.refl _ _)
              · (refine a_add (by first | omega | assumption | decide) (by first | omega | assumption | decide) ?_)
                exact hK3 (k + 1) _ _ (by omega) (by omega) (Gl.drop (.cons _ (.cons _ (List.Sublist.refl _))))
            · ((apply a_ldA 0; exact rfl; exact rfl); (refine a_cS ?_; refine a_strA 0 rfl rfl rfl rfl ?_); refine a_add (by first | omega | assumption | decide) (by first | omega | assumption | decide) ?_)
              exact hK (i + 1, S', L1) _ _ ⟨by dsimp only; omega, hS', r1⟩ (by dsimp only; omega) (Gl.drop (List.sublist_cons_self _ _))
        · have hnd : S'.w.nodes = 1 + (m : Int) := hS'.w.nodes
          ((apply a_ldA 0; exact rfl; exact rfl); refine a_call0 hRt ?_; refine a_not ?_; refine a_cndbF rfl ?_; refine a_fld ?_; (apply a_ld1 0; exact rfl; exact rfl); refine a_neq ?_; refine a_cndF (by first | omega | assumption | decide) ?_; refine a_fld ?_; (apply a_ld1 0; exact rfl; exact rfl); refine a_lenM ?_; refine a_fld ?_; (refine a_c1 ?_; apply a_ldr1 0; exact rfl; exact rfl); refine a_lenM ?_; refine a_neq ?_; refine a_cndF (by first | omega | assumption | decide) ?_; refine a_lenM ?_; refine a_gtr ?_; refine a_cndF (by first | omega | assumption | decide) ?_)
          exact hJ2 () _ _ trivial (Gl.refl _ _)
      · (refine a_lenM ?_; refine a_lss ?_)
        refine a_cnd (fun q => ?_) (fun q => ?_)
        · (refine a_lss ?_)
          refine a_cnd (fun q2 => ?_) (fun q2 => ?_)
          · exact hJ () _ _ ⟨by omega, by omega⟩ (Gl.refl _ _)
          · exact ge_drop _ _
        · exact ge_drop _ _
    · refine a_eqOwn ?_
      (refine a_cndbF rfl ?_; refine a_neq ?_; refine a_cndbF rfl ?_)
      exact hJ () _ _ trivial (Gl.refl _ _)
end Go.Proofs.YtdalobojhfafbaaGreatDoor
