/- Contracts: the law TermNames. -/
import Derived.Test.YtlonmopppgadgaaDoorC15
import Derived.Test.YtlonmopppgadgaaDoorN1
set_option maxRecDepth 100000
set_option linter.unusedVariables false
namespace Go.Proofs.YtlonmopppgadgaaDoor
open Go Go.V
theorem Nm.a_s1 {x : Nm} {k : D → Prop} (h : k (.s (str x.1))) {L : List Bx} : ald1 (.pin (List.drop 1 (Nm.tm x).cs)) L k := h
theorem Nm.a_idxZ {l : List Nm} {ki : IntKind} {k : D → Prop} {j : Int} (i : Nat) (hi : i < l.length) (e : j = i) (h : k (.pin (Nm.cr l[i]))) : aidxS 5 (.row 5 (l.map Nm.cr)) (.val (.int ki j)) k := by
  subst e; exact Nm.a_idx i hi h
theorem a_gtrSf {a b : List UInt8} {k : D → Prop} (hb : bl b a = false) (h : k (.b false)) : aar .gtr (.s (str a)) (.s (str b)) k := a_gtrS (by rw [hb]; exact h)
theorem str_inj {a b : List UInt8} (h : str a = str b) : a = b := by
  have := congrArg (fun s => s.data.toList) h
  simpa [str] using this
theorem c14 (t : Tm) : AFn pr 14 [t.d] [] (.ret (.b true)) := by
  refine AFn.of (s14 ?_)
  unfold A14
  (refine a_bxv fun z1 => ?_; refine a_call0 (c33) ?_; (apply a_ldA 0; exact rfl; exact rfl); refine a_call0 (c38 _) ?_)
  have hlen := namesF_len t
  have hris := namesF_rising t
  have hrt := fun x hx => namesF_right t (x := x) hx
  generalize NamesF t = l at *
  refine a_lp (σ := Nat) (fun i => [.i i]) (fun _ => [⟨z1, t.cs, .box⟩]) (fun i => i ≤ l.length) (fun i => l.length - i) 0 (by first | exact Gl.refl _ _ | exact Gl.drop (by repeat (first | exact List.Sublist.refl _ | exact List.Sublist.slnil | apply List.Sublist.cons_cons | apply List.Sublist.cons))) (Nat.zero_le _) ?_
  rintro i K hi hK
  dsimp only [aix0, aix1, aix2, aix3, aix4, aix5, aix6, aix7, aix8]
  (refine a_lenL ?_; refine a_lss ?_)
  refine a_cnd (fun h => ?_) (fun h => ?_)
  · have hlt : i < l.length := by rw [List.length_map] at h; omega
    obtain ⟨n1, n2⟩ := hrt _ (List.getElem_mem hlt)
    refine a_jn1 [] [⟨z1, t.cs, .box⟩] ?_ fun J hJ => ?_
    · (refine Nm.a_idx i hlt ?_; refine Nm.a_f1 ?_; (apply a_ldAp; exact rfl); refine a_call0 (c23 _) ?_; (apply a_ext; exact rfl); (apply a_ext; exact rfl); refine a_neq ?_; refine a_cndF (by first | omega | assumption | decide) ?_; refine a_add (by first | omega | assumption | decide) (by first | omega | assumption | decide) ?_)
      exact hK (i + 1) _ _ (by omega) (by omega) (by first | exact Gl.refl _ _ | exact Gl.drop (by repeat (first | exact List.Sublist.refl _ | exact List.Sublist.slnil | apply List.Sublist.cons_cons | apply List.Sublist.cons)))
    have cn : AFn pr 41 [.s (str l[i].1)] [] (.ret (.b (nameF (str l[i].1).data.toList))) := @c41 _
    rw [show nameF (str l[i].1).data.toList = true from n1] at cn
    (refine Nm.a_idx i hlt ?_; refine Nm.a_f0 ?_; refine Nm.a_ld ?_; refine a_callS0 cn ?_; refine a_not ?_; refine a_cndbF rfl ?_; refine Nm.a_idx i hlt ?_; refine Nm.a_f1 ?_; refine a_fldp ?_; (apply a_ld1p; exact rfl); refine Nm.a_idx i hlt ?_; refine Nm.a_f0 ?_; refine Nm.a_ld ?_; refine a_neqS ?_)
    refine a_cnd (fun h => absurd rfl h) (fun _ => ?_)
    (refine a_gtr ?_)
    refine a_cnd (fun h0 => ?_) (fun h0 => ?_)
    · have hst0 : 0 < i := by omega
      have hi1 : i - 1 < l.length := by omega
      have hst := rising_step hris i hlt (by omega)
      have he : ((i : Int) - 1) = ((i - 1 : Nat) : Int) := by omega
      have hbl : bl l[i].1 l[i - 1].1 = false := by
        rcases (ltN_iff _ _).1 hst with h | h
        · exact bl_asymm h
        · rw [h.1]; exact bl_irrefl _
      (refine a_sub (by first | omega | assumption | decide) (by first | omega | assumption | decide) ?_; refine Nm.a_idxZ (i - 1) hi1 he ?_; refine Nm.a_f0 ?_; refine Nm.a_ld ?_; refine Nm.a_idx i hlt ?_; refine Nm.a_f0 ?_; refine Nm.a_ld ?_; refine a_gtrSf hbl ?_; refine a_cndbF rfl ?_; refine a_sub (by first | omega | assumption | decide) (by first | omega | assumption | decide) ?_; refine Nm.a_idxZ (i - 1) hi1 he ?_; refine Nm.a_f0 ?_; refine Nm.a_ld ?_; refine Nm.a_idx i hlt ?_; refine Nm.a_f0 ?_; refine Nm.a_ld ?_; refine a_eqlS ?_)
      refine a_cnd (fun h2 => ?_) (fun h2 => ?_)
      · have h3 : l[i - 1].2 < l[i].2 := by
          rcases (ltN_iff _ _).1 hst with h | h
          · rw [str_inj h2, bl_irrefl] at h; cases h
          · exact h.2
        (refine a_sub (by first | omega | assumption | decide) (by first | omega | assumption | decide) ?_; refine Nm.a_idxZ (i - 1) hi1 he ?_; refine Nm.a_f1 ?_; refine a_fldp ?_; (apply a_ld1p; exact rfl); refine Nm.a_idx i hlt ?_; refine Nm.a_f1 ?_; refine a_fldp ?_; (apply a_ld1p; exact rfl); refine a_geq ?_)
        refine a_cnd (fun h4 => absurd (show l[i - 1].2 ≥ l[i].2 from h4) (by omega)) (fun _ => ?_)
        exact hJ _ _ (by first | exact Gl.refl _ _ | exact Gl.drop (by repeat (first | exact List.Sublist.refl _ | exact List.Sublist.slnil | apply List.Sublist.cons_cons | apply List.Sublist.cons)))
      · exact hJ _ _ (by first | exact Gl.refl _ _ | exact Gl.drop (by repeat (first | exact List.Sublist.refl _ | exact List.Sublist.slnil | apply List.Sublist.cons_cons | apply List.Sublist.cons)))
    · exact hJ _ _ (by first | exact Gl.refl _ _ | exact Gl.drop (by repeat (first | exact List.Sublist.refl _ | exact List.Sublist.slnil | apply List.Sublist.cons_cons | apply List.Sublist.cons)))
  · rfl
end Go.Proofs.YtlonmopppgadgaaDoor
