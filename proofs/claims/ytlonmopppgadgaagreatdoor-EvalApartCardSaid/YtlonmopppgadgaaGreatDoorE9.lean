/- EvalApart, EvalSorts. -/
import Derived.Test.YtlonmopppgadgaaGreatDoorM10
import Derived.Test.YtlonmopppgadgaaGreatDoorC14
import Derived.Test.YtlonmopppgadgaaGreatDoorW7
set_option maxRecDepth 100000
set_option linter.unusedVariables false
namespace Go.V
theorem Nm.b_idx {l : List Nm} {ki : IntKind} {k : D → Prop} (i : Nat) (hi : i < l.length) (h : k (.pin (Nm.cr l[i]))) : aidxS 5 (.row 5 (l.map Nm.cr)) (.val (.int ki i)) k :=
  V.a_idx i _ (by rw [List.getElem?_map, List.getElem?_eq_getElem hi]; rfl) h
theorem Nm.b_f0 {x : Nm} {k : D → Prop} (h : k (.pin (Nm.cr x))) : afld 0 (.pin (Nm.cr x)) k := h
theorem Nm.b_f1 {x : Nm} {k : D → Prop} (h : k (.pin (Nm.tm x).cs)) : afld 1 (.pin (Nm.cr x)) k := h
theorem Nm.b_ld {x : Nm} {L : List Bx} {k : D → Prop} (h : k (.s (str x.1))) : ald1 (.pin (Nm.cr x)) L k := h
end Go.V
namespace Go.Proofs.YtlonmopppgadgaaGreatDoor
open Go Go.V
theorem small_right {w : Wd} (hw : rightW w = true) : smallW w := fun x hx => by
  obtain ⟨h1, h2, _, h4⟩ := rightW_spec hw
  have hl := (isF_ok h1 (rightLW_mem h4 x hx).2).1.len
  split at hl <;> omega
theorem c4 (t : Tm) (w : Wd) (nm : ByteArray) (n : Int) : AFn pr 4 [t.d, w.d, .s nm, .i n] [] (.ret (.b true)) := by
  refine AFn.of (s4 ?_)
  unfold A4
  (refine a_bxv fun z1 => ?_; refine a_bxv fun z2 => ?_; refine a_call0 (c5) ?_; (apply a_ldA 1; exact rfl; exact rfl); refine a_call0 (c9 _) ?_)
  have hlen := namesF_len t
  refine a_lp (σ := Nat) (fun i => [.i i]) (fun _ => [⟨z2, w.cs, .box⟩, ⟨z1, t.cs, .box⟩]) (fun i => i ≤ (NamesF t).length ∧ ∀ (j : Nat) (hj : j < (NamesF t).length), j < i → str (NamesF t)[j].1 ≠ nm) (fun i => (NamesF t).length - i) 0 (by first | exact Gl.refl _ _ | exact Gl.drop (by repeat (first | exact List.Sublist.refl _ | exact List.Sublist.slnil | apply List.Sublist.cons_cons | apply List.Sublist.cons))) ⟨Nat.zero_le _, fun j _ h => absurd h (Nat.not_lt_zero _)⟩ ?_
  rintro i K ⟨hi, hI⟩ hK
  dsimp only [aix0, aix1, aix2, aix3, aix4, aix5, aix6, aix7, aix8]
  (refine a_lenM ?_; refine a_lss ?_)
  refine a_cnd (fun c1 => ?_) (fun c1 => ?_)
  · have hi1 : i < (NamesF t).length := by omega
    (refine Nm.b_idx i hi1 ?_; refine Nm.b_f0 ?_; refine Nm.b_ld ?_; refine a_eqlS ?_)
    refine a_cnd (fun c2 => ?_) (fun c2 => ?_)
    · rfl
    · (refine a_add (by first | omega | assumption | decide) (by first | omega | assumption | decide) ?_)
      refine hK (i + 1) _ _ ⟨by omega, fun j hj hji => ?_⟩ (by omega) (by first | exact Gl.refl _ _ | exact Gl.drop (by repeat (first | exact List.Sublist.refl _ | exact List.Sublist.slnil | apply List.Sublist.cons_cons | apply List.Sublist.cons)))
      rcases Nat.lt_or_ge j i with h | h
      · exact hI j hj h
      · obtain rfl : j = i := by omega
        exact c2
  · have hno : ∀ x ∈ NamesF t, str x.1 ≠ nm := fun x hx => by
      obtain ⟨j, hj, rfl⟩ := List.mem_iff_getElem.1 hx
      exact hI j hj (by omega)
    clear hK
    (refine a_call0 (c11) ?_)
    refine a_jn (σ := Unit) (fun _ => []) (fun _ => [⟨z2, w.cs, .box⟩, ⟨z1, t.cs, .box⟩]) (fun _ => nameF nm.data.toList = true ∧ rightW w = true ∧ w.names.length < 64) ?_ fun J hJ => ?_
    · rintro _ ⟨h1, hw, h3⟩
      obtain ⟨w1, w2, _, _⟩ := rightW_spec hw
      have hv : isF (Vl.mk 1 n false []) w.nodes = true := by
        unfold isF
        simp
      have hr := with_right (nm := nm) (v := Vl.mk 1 n false []) hw h1 hv h3
      have he := apart_eval (v := Vl.mk 1 n false []) hw hr hno
      have hc := c12 w nm (Vl.mk 1 n false []) (small_right hw) (by omega) (by simp)
      ((apply a_ldA 0; exact rfl; exact rfl); refine a_bldV0 rfl rfl ?_; refine a_call0 hc ?_; refine a_bx fun z3 => ?_; refine a_stA 0 rfl rfl rfl rfl ?_; (apply a_ldA 2; exact rfl; exact rfl); (apply a_ldA 1; exact rfl; exact rfl); refine a_call0 (c8 _ _) ?_; (apply a_ext; exact rfl); (apply a_ext; exact rfl); refine a_bx fun z4 => ?_; refine a_stA 0 rfl rfl rfl rfl ?_; (apply a_ldA 3; exact rfl; exact rfl); (apply a_ldA 1; exact rfl; exact rfl); refine a_call0 (c8 _ _) ?_; (apply a_ext; exact rfl); (apply a_ext; exact rfl); refine a_bx fun z5 => ?_; refine a_stA 0 rfl rfl rfl rfl ?_; refine a_cndbT rfl ?_; (apply a_ldA 2; exact rfl; exact rfl); refine a_call0 (c7 _) ?_; refine a_cndbT (by first | omega | assumption | decide) ?_; (apply a_ldA 1; exact rfl; exact rfl); (apply a_ldA 0; exact rfl; exact rfl); refine a_call0 (c13 _ _) ?_)
      rw [he]
      refine a_cndbT (by simp) ?_
      (refine a_eql ?_)
      exact ret_b (by simp)
    · (refine a_not ?_)
      cases hnm : nameF nm.data.toList with
      | false => rfl
      | true =>
        (refine a_cndbF rfl ?_; (apply a_ldA 0; exact rfl; exact rfl); refine a_call0 (c7 _) ?_; refine a_not ?_)
        cases hw : rightW w with
        | false => rfl
        | true =>
          (refine a_cndbF rfl ?_; refine a_fld ?_; (apply a_ld1 0; exact rfl; exact rfl); refine a_lenM ?_; refine a_geq ?_)
          refine a_cnd (fun c3 => ?_) (fun c3 => ?_)
          · rfl
          · exact hJ () _ _ ⟨hnm, hw, by omega⟩ (by first | exact Gl.refl _ _ | exact Gl.drop (by repeat (first | exact List.Sublist.refl _ | exact List.Sublist.slnil | apply List.Sublist.cons_cons | apply List.Sublist.cons)))
/-- all of these names are there -/
def thereB (w : Wd) (l : List Nm) : Bool := l.all fun x => (getF w.names (str x.1) (shpAt x.2).sort).isSome
theorem c3 (t : Tm) (w : Wd) : AFn pr 3 [t.d, w.d] [] (.ret (.b true)) := by
  refine AFn.of (s3 ?_)
  unfold A3
  (refine a_bxv fun z1 => ?_; refine a_bxv fun z2 => ?_; refine a_call0 (c5) ?_; (apply a_ldA 1; exact rfl; exact rfl); refine a_call0 (c6 _) ?_; (apply a_ext; exact rfl); (apply a_ext; exact rfl))
  refine a_jn (σ := Unit) (fun _ => []) (fun _ => [⟨z2, w.cs, .box⟩, ⟨z1, t.cs, .box⟩]) (fun _ => (sortF t).2 = 0 ∧ rightW w = true) ?_ fun J hJ => ?_
  · rintro _ ⟨h0, hw⟩
    have hte := there_eval hw h0
    have hlen := namesF_len t
    have hrt := fun x hx => namesF_right t (x := x) hx
    ((apply a_ldA 1; exact rfl; exact rfl); (apply a_ldA 0; exact rfl; exact rfl); refine a_call0 (c8 _ _) ?_; (apply a_ext; exact rfl); (apply a_ext; exact rfl); refine a_bx fun z3 => ?_; refine a_stA 0 rfl rfl rfl rfl ?_; (apply a_ldA 2; exact rfl; exact rfl); refine a_call0 (c9 _) ?_)
    refine a_lp (σ := Nat) (fun i => [.b (thereB w ((NamesF t).take i)), .i i]) (fun _ => [⟨z3, (evalF t w).1.cs, .box⟩, ⟨z2, w.cs, .box⟩, ⟨z1, t.cs, .box⟩]) (fun i => i ≤ (NamesF t).length) (fun i => (NamesF t).length - i) 0 (by first | exact Gl.refl _ _ | exact Gl.drop (by repeat (first | exact List.Sublist.refl _ | exact List.Sublist.slnil | apply List.Sublist.cons_cons | apply List.Sublist.cons))) (Nat.zero_le _) ?_
    rintro i K hi hK
    dsimp only [aix0, aix1, aix2, aix3, aix4, aix5, aix6, aix7, aix8]
    (refine a_lenM ?_; refine a_lss ?_)
    refine a_cnd (fun c1 => ?_) (fun c1 => ?_)
    · have hi1 : i < (NamesF t).length := by omega
      obtain ⟨_, hs0⟩ := hrt _ (List.getElem_mem hi1)
      obtain ⟨_, _, _, hs1⟩ := sortF_ok hs0
      have hs1 : (sortF (Nm.tm (NamesF t)[i])).1 = (shpAt (NamesF t)[i].2).sort := hs1
      have hg := c10 w (str (NamesF t)[i].1) (sortF (Nm.tm (NamesF t)[i])).1 (small_right hw)
      have et : thereB w ((NamesF t).take (i + 1)) = (thereB w ((NamesF t).take i) && (getF w.names (str (NamesF t)[i].1) (sortF (Nm.tm (NamesF t)[i])).1).isSome) := by
        unfold thereB
        rw [List.take_succ_eq_append_getElem hi1, List.all_append, hs1]
        simp
      have hK1 := hK (i + 1)
      rw [et] at hK1
      clear hK hte
      unfold getD' at hg
      (refine Nm.b_idx i hi1 ?_; refine Nm.b_f1 ?_; (apply a_ldAp; exact rfl); refine a_call0 (c6 _) ?_; (apply a_ext; exact rfl); (apply a_ext; exact rfl); (apply a_ldA 1; exact rfl; exact rfl); refine Nm.b_idx i hi1 ?_; refine Nm.b_f0 ?_; refine Nm.b_ld ?_; refine a_callS0 hg ?_; (apply a_ext; exact rfl); (apply a_ext; exact rfl); refine a_bx fun z4 => ?_; refine a_stA 0 rfl rfl rfl rfl ?_)
      refine a_cndb (fun q => ?_) (fun q => ?_)
      · rw [q, Bool.true_and] at hK1
        (refine a_add (by first | omega | assumption | decide) (by first | omega | assumption | decide) ?_)
        exact hK1 _ _ (by omega) (by omega) (by first | exact Gl.refl _ _ | exact Gl.drop (by repeat (first | exact List.Sublist.refl _ | exact List.Sublist.slnil | apply List.Sublist.cons_cons | apply List.Sublist.cons)))
      · rw [q, Bool.false_and] at hK1
        (refine a_add (by first | omega | assumption | decide) (by first | omega | assumption | decide) ?_)
        exact hK1 _ _ (by omega) (by omega) (by first | exact Gl.refl _ _ | exact Gl.drop (by repeat (first | exact List.Sublist.refl _ | exact List.Sublist.slnil | apply List.Sublist.cons_cons | apply List.Sublist.cons)))
    · obtain rfl : i = (NamesF t).length := by omega
      rw [List.take_length]
      clear hK
      rcases hte with ⟨e0, e1, e2⟩ | ⟨e0, e1⟩
      · have ht : thereB w (NamesF t) = true := by
          unfold thereB
          rw [List.all_eq_true]
          exact e1
        rw [ht]
        have es := e2.sort
        have el := e2.len
        have en := e2.nod
        obtain ⟨w1, w2, _, _⟩ := rightW_spec hw
        (refine a_neq ?_; refine a_cndF (by first | omega | assumption | decide) ?_; refine a_cndbT rfl ?_; refine a_cndbT rfl ?_; refine a_fld ?_; (apply a_ld1 0; exact rfl; exact rfl); refine a_eql ?_; refine a_cndT (by first | omega | assumption | decide) ?_; refine a_neq ?_)
        refine a_jn (σ := Unit) (fun _ => [.b true]) (fun _ => [⟨z3, (evalF t w).1.cs, .box⟩, ⟨z2, w.cs, .box⟩, ⟨z1, t.cs, .box⟩]) (fun _ => True) ?_ fun J2 hJ2 => ?_
        · rintro _ _
          (refine a_cndbT rfl ?_; refine a_neq ?_)
          refine a_jn (σ := Unit) (fun _ => [.b true]) (fun _ => [⟨z3, (evalF t w).1.cs, .box⟩, ⟨z2, w.cs, .box⟩, ⟨z1, t.cs, .box⟩]) (fun _ => True) ?_ fun J3 hJ3 => ?_
          · rintro _ _
            rfl
          · skip
            refine a_cnd (fun c2 => ?_) (fun c2 => ?_)
            · exact hJ3 () _ _ trivial (by first | exact Gl.refl _ _ | exact Gl.drop (by repeat (first | exact List.Sublist.refl _ | exact List.Sublist.slnil | apply List.Sublist.cons_cons | apply List.Sublist.cons)))
            · obtain ⟨n1, n2⟩ := en (Classical.not_not.1 c2)
              (refine a_fld ?_; (apply a_ld1 0; exact rfl; exact rfl); refine a_geq ?_; (apply a_jnX; intro J hJ); refine a_cndT (by first | omega | assumption | decide) ?_; refine a_fld ?_; (apply a_ld1 0; exact rfl; exact rfl); refine a_fld ?_; (apply a_ld1 1; exact rfl; exact rfl); refine a_lss ?_; exact hJ; dsimp only [aix0, aix1, aix2, aix3, aix4, aix5, aix6, aix7, aix8])
              rw [decide_eq_true n2]
              exact hJ3 () _ _ trivial (by first | exact Gl.refl _ _ | exact Gl.drop (by repeat (first | exact List.Sublist.refl _ | exact List.Sublist.slnil | apply List.Sublist.cons_cons | apply List.Sublist.cons)))
        · skip
          refine a_cnd (fun c2 => ?_) (fun c2 => ?_)
          · exact hJ2 () _ _ trivial (by first | exact Gl.refl _ _ | exact Gl.drop (by repeat (first | exact List.Sublist.refl _ | exact List.Sublist.slnil | apply List.Sublist.cons_cons | apply List.Sublist.cons)))
          · rw [if_pos (Classical.not_not.1 c2)] at el
            (refine a_fld ?_; (apply a_ld1 0; exact rfl; exact rfl); refine a_lenM ?_; refine a_fld ?_; (apply a_ld1 1; exact rfl; exact rfl); refine a_eql ?_)
            rw [decide_eq_true (show ((evalF t w).1.s.length : Int) = w.nodes by omega)]
            exact hJ2 () _ _ trivial (by first | exact Gl.refl _ _ | exact Gl.drop (by repeat (first | exact List.Sublist.refl _ | exact List.Sublist.slnil | apply List.Sublist.cons_cons | apply List.Sublist.cons)))
      · rw [e0]
        have hf : (evalF t w).2 ≠ 0 := by rcases e1 with h | ⟨h, _⟩ <;> omega
        (refine a_neq ?_; refine a_cndT (by first | omega | assumption | decide) ?_; refine a_cndbT rfl ?_; refine a_fld ?_; (apply a_ld1 0; exact rfl; exact rfl); refine a_eql ?_; refine a_cndbT rfl ?_; refine a_eql ?_)
        refine a_jn (σ := Unit) (fun _ => [.b true]) (fun _ => [⟨z3, vz.cs, .box⟩, ⟨z2, w.cs, .box⟩, ⟨z1, t.cs, .box⟩]) (fun _ => True) ?_ fun J2 hJ2 => ?_
        · rintro _ _
          rfl
        · skip
          refine a_cnd (fun c2 => ?_) (fun c2 => ?_)
          · exact hJ2 () _ _ trivial (by first | exact Gl.refl _ _ | exact Gl.drop (by repeat (first | exact List.Sublist.refl _ | exact List.Sublist.slnil | apply List.Sublist.cons_cons | apply List.Sublist.cons)))
          · obtain ⟨e4, x, hx, hs⟩ := e1.resolve_left c2
            have ht : thereB w (NamesF t) = false := by
              unfold thereB
              rw [List.all_eq_false]
              exact ⟨x, hx, by rw [hs]; decide⟩
            rw [ht]
            (refine a_eql ?_; (apply a_jnX; intro J hJ); refine a_cndT (by first | omega | assumption | decide) ?_; refine a_not ?_; exact hJ; dsimp only [aix0, aix1, aix2, aix3, aix4, aix5, aix6, aix7, aix8])
            exact hJ2 () _ _ trivial (by first | exact Gl.refl _ _ | exact Gl.drop (by repeat (first | exact List.Sublist.refl _ | exact List.Sublist.slnil | apply List.Sublist.cons_cons | apply List.Sublist.cons)))
  · refine a_jn (σ := Bool) (fun x => [.b x]) (fun _ => [⟨z2, w.cs, .box⟩, ⟨z1, t.cs, .box⟩]) (fun x => (x = true → (sortF t).2 ≠ 0 ∨ rightW w = false) ∧ (x = false → (sortF t).2 = 0 ∧ rightW w = true)) ?_ fun J2 hJ2 => ?_
    · rintro x ⟨hx1, hx2⟩
      cases x with
      | false =>
        (refine a_cndbF rfl ?_)
        exact hJ () _ _ (hx2 rfl) (by first | exact Gl.refl _ _ | exact Gl.drop (by repeat (first | exact List.Sublist.refl _ | exact List.Sublist.slnil | apply List.Sublist.cons_cons | apply List.Sublist.cons)))
      | true =>
        have hx1 := hx1 rfl
        have hf : (evalF t w).2 ≠ 0 ∧ ((sortF t).2 ≠ 0 → (evalF t w).2 = (sortF t).2) := by
          unfold evalF
          by_cases h : (sortF t).2 ≠ 0
          · rw [if_pos h]; exact ⟨h, fun _ => rfl⟩
          · rw [if_neg h, if_pos (hx1.resolve_left h)]
            exact ⟨by decide, fun h' => absurd h' h⟩
        obtain ⟨hf1, hf2⟩ := hf
        clear hJ
        (refine a_cndbT rfl ?_; (apply a_ldA 1; exact rfl; exact rfl); (apply a_ldA 0; exact rfl; exact rfl); refine a_call0 (c8 _ _) ?_; (apply a_ext; exact rfl); (apply a_ext; exact rfl); refine a_bx fun z3 => ?_; refine a_stA 0 rfl rfl rfl rfl ?_; refine a_cndbT rfl ?_; refine a_neq ?_; refine a_cndT (by first | omega | assumption | decide) ?_; refine a_eql ?_)
        refine a_jn (σ := Unit) (fun _ => [.b true]) (fun _ => [⟨z3, (evalF t w).1.cs, .box⟩, ⟨z2, w.cs, .box⟩, ⟨z1, t.cs, .box⟩]) (fun _ => True) ?_ fun J3 hJ3 => ?_
        · rintro _ _
          rfl
        · skip
          refine a_cnd (fun c2 => ?_) (fun c2 => ?_)
          · exact hJ3 () _ _ trivial (by first | exact Gl.refl _ _ | exact Gl.drop (by repeat (first | exact List.Sublist.refl _ | exact List.Sublist.slnil | apply List.Sublist.cons_cons | apply List.Sublist.cons)))
          · (refine a_eql ?_)
            rw [decide_eq_true (hf2 c2)]
            exact hJ3 () _ _ trivial (by first | exact Gl.refl _ _ | exact Gl.drop (by repeat (first | exact List.Sublist.refl _ | exact List.Sublist.slnil | apply List.Sublist.cons_cons | apply List.Sublist.cons)))
    · (refine a_neq ?_)
      refine a_cnd (fun c1 => ?_) (fun c1 => ?_)
      · exact hJ2 true _ _ ⟨fun _ => .inl c1, fun h => by cases h⟩ (by first | exact Gl.refl _ _ | exact Gl.drop (by repeat (first | exact List.Sublist.refl _ | exact List.Sublist.slnil | apply List.Sublist.cons_cons | apply List.Sublist.cons)))
      · ((apply a_ldA 0; exact rfl; exact rfl); refine a_call0 (c7 _) ?_; refine a_not ?_)
        have c0 := Classical.not_not.1 c1
        cases hw : rightW w with
        | false => exact hJ2 true _ _ ⟨fun _ => .inr hw, fun h => by cases h⟩ (by first | exact Gl.refl _ _ | exact Gl.drop (by repeat (first | exact List.Sublist.refl _ | exact List.Sublist.slnil | apply List.Sublist.cons_cons | apply List.Sublist.cons)))
        | true => exact hJ2 false _ _ ⟨fun h => (by cases h), fun _ => ⟨c0, hw⟩⟩ (by first | exact Gl.refl _ _ | exact Gl.drop (by repeat (first | exact List.Sublist.refl _ | exact List.Sublist.slnil | apply List.Sublist.cons_cons | apply List.Sublist.cons)))
end Go.Proofs.YtlonmopppgadgaaGreatDoor
