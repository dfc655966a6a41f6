/- The law SubstValues. -/
import Derived.Test.YtaigilchnadmpaaGreatDoorM16
import Derived.Test.YtaigilchnadmpaaGreatDoorC27
set_option maxRecDepth 100000
set_option linter.unusedVariables false
namespace Go.V
open Go
def fewB (l : List As) : Bool := l.all fun x => smallB x.to
end Go.V
namespace Go.Proofs.YtaigilchnadmpaaGreatDoor
open Go Go.V
theorem smallW_right {w : Wd} (hw : rightW w = true) : smallW w := fun x hx => by
  obtain ⟨h1, h2, _, h4⟩ := rightW_spec hw
  have hl := (isF_ok h1 (rightLW_mem h4 x hx).2).1.len
  split at hl <;> omega
theorem c42 (l : List As) : AFn pr 42 [.row 5 (l.map As.cr)] [] (.ret (.tuple [if fewB (l.take (min l.length 10)) then .row 5 ((l.take (min l.length 10)).map As.cr) else .nil, .b (fewB (l.take (min l.length 10)))])) := by
  refine AFn.of (s42 ?_)
  unfold A42
  (refine a_lenM ?_; refine a_min ?_)
  have em : (min (l.length : Int) 10) = ((min l.length 10 : Nat) : Int) := by omega
  rw [em]
  refine a_slcM (min l.length 10) (by omega) ?_
  have hl : (l.take (min l.length 10)).length ≤ 10 := by rw [List.length_take]; omega
  generalize l.take (min l.length 10) = m at hl ⊢
  refine a_lp (σ := Nat) (fun i => [.i i]) (fun _ => []) (fun i => i ≤ m.length ∧ fewB (m.take i) = true) (fun i => m.length - i) 0 (by first | exact Gl.refl _ _ | exact Gl.drop (by repeat (first | exact List.Sublist.refl _ | exact List.Sublist.slnil | apply List.Sublist.cons_cons | apply List.Sublist.cons))) ⟨Nat.zero_le _, rfl⟩ ?_
  rintro i K ⟨hi, hf⟩ hK
  dsimp only [aix0, aix1, aix2, aix3, aix4, aix5, aix6, aix7, aix8]
  (refine a_lenM ?_; refine a_lss ?_)
  refine a_cnd (fun q => ?_) (fun q => ?_)
  · have hlt : i < m.length := by omega
    refine a_idxM i hlt ?_
    refine As.a_f1 ?_
    ((apply a_ldAp; exact rfl); refine a_call0 (c13 _) ?_; refine a_not ?_)
    have et : fewB (m.take (i + 1)) = smallB m[i].to := by
      unfold fewB at hf ⊢
      rw [List.take_succ_eq_append_getElem hlt, List.all_append, hf]; simp
    cases hs : smallB m[i].to with
    | false =>
      have hno : fewB m = false := by
        unfold fewB
        rw [List.all_eq_false]
        exact ⟨_, List.getElem_mem hlt, by rw [hs]; simp⟩
      rw [hno]
      rfl
    | true =>
      rw [hs] at et
      (refine a_cndbF rfl ?_; refine a_add (by first | omega | assumption | decide) (by first | omega | assumption | decide) ?_)
      exact hK (i + 1) _ _ ⟨by omega, et⟩ (by omega) (by first | exact Gl.refl _ _ | exact Gl.drop (by repeat (first | exact List.Sublist.refl _ | exact List.Sublist.slnil | apply List.Sublist.cons_cons | apply List.Sublist.cons)))
  · rw [show i = m.length by omega, List.take_length] at hf
    rw [hf]
    rfl
theorem few_ok {m : List As} (h : fewB m = true) : ∀ x ∈ m, smallB x.to = true := by
  unfold fewB at h
  exact fun x hx => List.all_eq_true.1 h x hx
theorem c10 (t : Tm) (l : List As) (w : Wd) : AFn pr 10 [t.d, .row 5 (l.map As.cr), w.d] [] (.ret (.b true)) := by
  refine AFn.of (s10 ?_)
  unfold A10
  have hl : (l.take (min l.length 10)).length ≤ 10 := by rw [List.length_take]; omega
  have hfew := c42 l
  generalize l.take (min l.length 10) = m at hl hfew
  (refine a_bxv fun z1 => ?_; refine a_bxv fun z2 => ?_; refine a_call0 (c11) ?_; (apply a_ldA 1; exact rfl; exact rfl); refine a_call0 (c13 _) ?_; refine a_call0 hfew ?_; (apply a_ext; exact rfl); (apply a_ext; exact rfl))
  clear hfew
  refine a_jn (σ := Unit) (fun _ => []) (fun _ => [⟨z2, w.cs, .box⟩, ⟨z1, t.cs, .box⟩]) (fun _ => smallB t = true ∧ fewB m = true ∧ rightW w = true ∧ w.names.length ≤ 40) ?_ fun J hJ => ?_
  · rintro _ ⟨ht, hf, hw, hn⟩
    obtain ⟨h0, _, _⟩ := smallB_iff.1 ht
    have hf' := few_ok hf
    rw [if_pos hf]
    ((apply a_ldA 0; exact rfl; exact rfl); refine a_bx fun z3 => ?_; refine a_stA 0 rfl rfl rfl rfl ?_; refine a_lenM ?_)
    refine a_lp (σ := Nat) (fun i => [.i i]) (fun i => [⟨z3, (uL w (m.drop i)).cs, .box⟩, ⟨z2, w.cs, .box⟩, ⟨z1, t.cs, .box⟩]) (fun i => i ≤ m.length ∧ Puts w (m.drop i)) (fun i => i) m.length (by rw [List.drop_length]; exact (by first | exact Gl.refl _ _ | exact Gl.drop (by repeat (first | exact List.Sublist.refl _ | exact List.Sublist.slnil | apply List.Sublist.cons_cons | apply List.Sublist.cons)))) ⟨Nat.le_refl _, by rw [List.drop_length]; exact fun x hx => by cases hx⟩ ?_
    rintro i K ⟨hi, hp⟩ hK
    dsimp only [aix0, aix1, aix2, aix3, aix4, aix5, aix6, aix7, aix8]
    obtain ⟨hr, hrn⟩ := uL_right hw hp (by rw [List.length_drop]; omega)
    rw [List.length_drop] at hrn
    cases i with
    | zero =>
      rw [List.drop_zero] at hp hr hrn ⊢
      clear hK
      have hval := fun hp0 => put_value hw hp (by omega) h0 hp0
      generalize uL w m = u at *
      have hbad := fun x hx => (smallB_iff.1 (hf' x hx)).1
      have hP := PutF_mk h0 hbad
      (refine a_gtr ?_; refine a_cndbF rfl ?_; (apply a_ldA 2; exact rfl; exact rfl); refine a_call0 (c14 _ _) ?_; (apply a_ext; exact rfl); (apply a_ext; exact rfl); refine a_bx fun z4 => ?_; refine a_stA 0 rfl rfl rfl rfl ?_; refine a_neq ?_)
      refine a_cnd (fun q => ?_) (fun q => ?_)
      · obtain ⟨_, _, rt, _⟩ := sortF_ok h0
        rw [hP] at q
        have := outF_err rt q
        (refine a_cndbT rfl ?_; refine a_eql ?_)
        exact ret_b (by rw [hP, this]; rfl)
      · obtain ⟨_, _, p0, ep⟩ := PutF_ok (Classical.not_not.1 q)
        have hval := hval p0
        rw [ep]
        clear hP ep q
        generalize ptT (pickT m) t = p at *
        ((apply a_ldA 0; exact rfl; exact rfl); (apply a_ldA 2; exact rfl; exact rfl); refine a_call0 (c41 _ _) ?_; (apply a_ext; exact rfl); (apply a_ext; exact rfl); refine a_bx fun z5 => ?_; refine a_stA 0 rfl rfl rfl rfl ?_; (apply a_ldA 4; exact rfl; exact rfl); (apply a_ldA 2; exact rfl; exact rfl); refine a_call0 (c41 _ _) ?_; (apply a_ext; exact rfl); (apply a_ext; exact rfl); refine a_bx fun z6 => ?_; refine a_stA 0 rfl rfl rfl rfl ?_; refine a_cndbT rfl ?_; (apply a_ldA 1; exact rfl; exact rfl); (apply a_ldA 0; exact rfl; exact rfl); refine a_call0 (c46 _ _) ?_)
        rw [hval]
        generalize evalF t u = r
        refine a_cndbT (by simp) ?_
        (refine a_eql ?_)
        exact ret_b (by simp)
    | succ i =>
      have hlt : i < m.length := by omega
      have hK' := hK i
      rw [List.drop_eq_getElem_cons hlt, uL] at hK'
      clear hK
      generalize hu : uL w (m.drop (i + 1)) = u at *
      have e1 : ((i + 1 : Nat) : Int) - 1 = i := by omega
      (refine a_gtr ?_; refine a_cndT (by first | omega | assumption | decide) ?_; refine a_sub (by first | omega | assumption | decide) (by first | omega | assumption | decide) ?_)
      rw [e1]
      refine a_idxM i hlt ?_
      refine As.a_f1 ?_
      ((apply a_ldAp; exact rfl); (apply a_ldA 1; exact rfl; exact rfl); refine a_callS0 (c41 _ _) ?_; (apply a_ext; exact rfl); (apply a_ext; exact rfl); refine a_bx fun z4 => ?_; refine a_stA 0 rfl rfl rfl rfl ?_)
      refine a_jn (σ := Unit) (fun _ => []) (fun _ => [⟨z4, (evalF m[i].to w).1.cs, .box⟩, ⟨z3, u.cs, .box⟩, ⟨z2, w.cs, .box⟩, ⟨z1, t.cs, .box⟩]) (fun _ => (evalF m[i].to w).2 = 0 ∧ nameF m[i].nm.data.toList = true) ?_ fun J2 hJ2 => ?_
      · rintro _ ⟨q1, q2⟩
        have hp2 : Puts w (m[i] :: m.drop (i + 1)) := fun x hx => by
          rcases List.mem_cons.1 hx with rfl | hx
          · exact ⟨(smallB_iff.1 (hf' _ (List.getElem_mem hlt))).1, q1, q2⟩
          · exact hp x hx
        have hsv : (evalF m[i].to w).1.s.length ≤ 140737488355328 := by
          obtain ⟨_, hok, _⟩ := eval_okV hw (smallB_iff.1 (hf' _ (List.getElem_mem hlt))).1 q1
          have h1 := hok.len
          obtain ⟨_, h2, _, _⟩ := rightW_spec hw
          split at h1 <;> omega
        have hc := c45 u m[i].nm (evalF m[i].to w).1 (smallW_right hr) (by omega) hsv
        ((apply a_ldA 1; exact rfl; exact rfl); refine a_sub (by first | omega | assumption | decide) (by first | omega | assumption | decide) ?_)
        rw [e1]
        refine a_idxM i hlt ?_
        refine As.a_f0 ?_
        refine As.a_s ?_
        ((apply a_ldA 0; exact rfl; exact rfl); refine a_callS0 hc ?_; refine a_stA 1 rfl rfl rfl rfl ?_; refine a_sub (by first | omega | assumption | decide) (by first | omega | assumption | decide) ?_)
        rw [e1]
        exact hK' _ _ ⟨by omega, hp2⟩ (by omega) (by first | exact Gl.refl _ _ | exact Gl.drop (by repeat (first | exact List.Sublist.refl _ | exact List.Sublist.slnil | apply List.Sublist.cons_cons | apply List.Sublist.cons)))
      · (refine a_neq ?_)
        refine a_cnd (fun q1 => ?_) (fun q1 => ?_)
        · rfl
        · have q1 := Classical.not_not.1 q1
          (refine a_sub (by first | omega | assumption | decide) (by first | omega | assumption | decide) ?_)
          rw [e1]
          refine a_idxM i hlt ?_
          refine As.a_f0 ?_
          refine As.a_s ?_
          (refine a_call0 (c44) ?_; refine a_not ?_)
          cases q2 : nameF m[i].nm.data.toList with
          | false => rfl
          | true =>
            (refine a_cndbF rfl ?_)
            exact hJ2 () _ _ ⟨q1, q2⟩ (by first | exact Gl.refl _ _ | exact Gl.drop (by repeat (first | exact List.Sublist.refl _ | exact List.Sublist.slnil | apply List.Sublist.cons_cons | apply List.Sublist.cons)))
  · (refine a_not ?_)
    cases ht : smallB t with
    | false => rfl
    | true =>
      (refine a_cndbF rfl ?_; refine a_not ?_)
      cases hf : fewB m with
      | false => rfl
      | true =>
        (refine a_cndbF rfl ?_; (apply a_ldA 0; exact rfl; exact rfl); refine a_call0 (c43 _) ?_; refine a_not ?_)
        cases hw : rightW w with
        | false => rfl
        | true =>
          (refine a_cndbF rfl ?_; refine a_fld ?_; (apply a_ld1 0; exact rfl; exact rfl); refine a_lenM ?_; refine a_gtr ?_)
          refine a_cnd (fun q => ?_) (fun q => ?_)
          · rfl
          · exact hJ () _ _ ⟨ht, hf, hw, by omega⟩ (by first | exact Gl.refl _ _ | exact Gl.drop (by repeat (first | exact List.Sublist.refl _ | exact List.Sublist.slnil | apply List.Sublist.cons_cons | apply List.Sublist.cons)))
end Go.Proofs.YtaigilchnadmpaaGreatDoor
