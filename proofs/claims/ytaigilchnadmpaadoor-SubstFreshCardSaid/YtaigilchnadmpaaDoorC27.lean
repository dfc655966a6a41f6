/- Laws of layer 5: what must be in any case; SubstNone, SubstTwice, SubstFresh. -/
import Derived.Test.YtaigilchnadmpaaDoorC26
set_option maxRecDepth 100000
set_option linter.unusedVariables false
namespace Go.V
open Go
def smallB (t : Tm) : Bool := decide ((sortF t).2 = 0) && (decide (t.size ≤ 200) && decide (t.dep ≤ 20))
theorem smallB_iff {t : Tm} : smallB t = true ↔ (sortF t).2 = 0 ∧ t.size ≤ 200 ∧ t.dep ≤ 20 := by
  unfold smallB; rw [Bool.and_eq_true, Bool.and_eq_true, decide_eq_true_eq, decide_eq_true_eq, decide_eq_true_eq]
def xV : Tm := .mk 2 ⟨#[120]⟩ 0 []
def yV : Tm := .mk 2 ⟨#[121]⟩ 0 []
def nV (n : Int) : Tm := .mk 1 ⟨#[]⟩ n []
def sumV : Tm := mk 4 [yV, nV 1]
theorem shown1 : PutF xV [⟨⟨#[120]⟩, sumV⟩, ⟨⟨#[121]⟩, xV⟩] = (sumV, 0) := by kernel_rfl
theorem shown2 : PutF xV [⟨⟨#[120]⟩, mk 16 []⟩] = (xV, 0) := by kernel_rfl
theorem shown3 : freeF sumV ⟨#[121]⟩ = true := by kernel_rfl
theorem shown4 : freeF sumV ⟨#[120]⟩ = false := by kernel_rfl
theorem shown5 : freshL [xV] [120] = [120, 95, 48] := by kernel_rfl
theorem shown6 : freshL [xV] [121] = [121] := by kernel_rfl
theorem shown7 : sameF sumV sumV = true := by kernel_rfl
theorem shown8 : sameF xV xV = true := by kernel_rfl
end Go.V
namespace Go.Proofs.YtaigilchnadmpaaDoor
open Go Go.V
theorem c7 (t : Tm) : AFn pr 7 [t.d] [] (.ret (.b (smallB t))) := by
  refine AFn.of (s7 ?_)
  unfold A7
  have e1 : sizT t 0 = min (t.size : Int) 2001 := by rw [sizT_min t 0 (by omega) (by omega)]; omega
  have e2 : deepT t 101 = min (t.dep : Int) 101 := deepT_min t 101 (by omega)
  unfold smallB
  (refine a_bxv fun z1 => ?_; (apply a_ldA 0; exact rfl; exact rfl); refine a_call0 (c14 _) ?_; (apply a_ext; exact rfl); (apply a_ext; exact rfl); refine a_eql ?_)
  refine a_cnd (fun h1 => ?_) (fun h1 => ?_)
  · ((apply a_ldA 0; exact rfl; exact rfl); refine a_call0 (c13 _) ?_; refine a_leq ?_)
    refine a_cnd (fun h2 => ?_) (fun h2 => ?_)
    · ((apply a_ldA 0; exact rfl; exact rfl); refine a_call0 (c16 _) ?_; refine a_leq ?_)
      exact ret_b (by rw [decide_eq_true h1, decide_eq_true (show t.size ≤ 200 by omega), Bool.true_and, Bool.true_and]; by_cases h3 : t.dep ≤ 20; rw [decide_eq_true h3, decide_eq_true (by omega)]; rw [decide_eq_false h3, decide_eq_false (by omega)])
    · exact ret_b (by rw [decide_eq_true h1, decide_eq_false (show ¬ t.size ≤ 200 by omega)]; rfl)
  · exact ret_b (by rw [decide_eq_false h1]; rfl)
theorem c6 : AFn pr 6 [] [] (.ret (.b true)) := by
  refine AFn.of (s6 ?_)
  unfold A6
  (refine a_bldT0 rfl rfl ?_; refine a_bx fun z1 => ?_; refine a_stA 0 rfl rfl rfl rfl ?_; refine a_bldT0 rfl rfl ?_; refine a_bx fun z2 => ?_; refine a_stA 0 rfl rfl rfl rfl ?_; (apply a_ldA 0; exact rfl; exact rfl); refine a_bldT0 rfl rfl ?_; refine a_rowS2 rfl ?_; refine a_bldT rfl rfl ?_; refine a_bx fun z3 => ?_; refine a_stA 0 rfl rfl rfl rfl ?_; (apply a_ldA 2; exact rfl; exact rfl); (apply a_ldA 0; exact rfl; exact rfl); refine a_bldA rfl rfl ?_; (apply a_ldA 2; exact rfl; exact rfl); refine a_bldA rfl rfl ?_; refine a_rowAS2 rfl ?_; refine a_call0 (c10 _ _) ?_; (apply a_ext; exact rfl); (apply a_ext; exact rfl); refine a_bx fun z4 => ?_; refine a_stA 0 rfl rfl rfl rfl ?_; (apply a_ldA 3; exact rfl; exact rfl); refine a_bldT0 rfl rfl ?_; refine a_bldA rfl rfl ?_; refine a_rowAS1 rfl ?_; refine a_call0 (c10 _ _) ?_; (apply a_ext; exact rfl); (apply a_ext; exact rfl); refine a_bx fun z5 => ?_; refine a_stA 0 rfl rfl rfl rfl ?_; refine a_eql ?_; refine a_cndbT rfl ?_; (apply a_ldA 1; exact rfl; exact rfl); (apply a_ldA 2; exact rfl; exact rfl); refine a_call0 (c12 _ _) ?_; refine a_cndbT rfl ?_; refine a_eql ?_; refine a_cndbT rfl ?_; (apply a_ldA 0; exact rfl; exact rfl); (apply a_ldA 4; exact rfl; exact rfl); refine a_call0 (c12 _ _) ?_; refine a_cndbT rfl ?_; (apply a_ldA 2; exact rfl; exact rfl); refine a_call0 (c9 _ _) ?_)
  refine a_cndbT shown3 ?_
  ((apply a_ldA 2; exact rfl; exact rfl); refine a_call0 (c9 _ _) ?_; refine a_not ?_)
  refine a_cndbT (by have := shown4; unfold sumV yV nV mk at this; rw [this]; rfl) ?_
  ((apply a_ldA 4; exact rfl; exact rfl); refine a_rowS1 rfl ?_; refine a_call0 (c8 [xV] [120]) ?_; refine a_eqlS ?_)
  rw [shown5]
  (refine a_cndbT rfl ?_; (apply a_ldA 4; exact rfl; exact rfl); refine a_rowS1 rfl ?_; refine a_call0 (c8 [xV] [121]) ?_; refine a_eqlS ?_)
  rw [shown6]
  skip
  exact ret_b (by decide +kernel)
theorem c3 (t : Tm) (nm : List UInt8) (n : Int) : AFn pr 3 [t.d, .s (str nm), .i n] [] (.ret (.b true)) := by
  refine AFn.of (s3 ?_)
  unfold A3
  (refine a_bxv fun z1 => ?_; refine a_call0 (c6) ?_; (apply a_ldA 0; exact rfl; exact rfl); refine a_call0 (c7 _) ?_; refine a_not ?_)
  cases hs : smallB t with
  | false => rfl
  | true =>
    obtain ⟨h0, hsz, hdp⟩ := smallB_iff.1 hs
    clear hs
    (refine a_cndbF rfl ?_; (apply a_ldA 0; exact rfl; exact rfl); refine a_rowS1 rfl ?_; refine a_call0 (c8 [t] nm) ?_; (apply a_ldA 0; exact rfl; exact rfl); refine a_call0 (c9 _ _) ?_)
    refine a_cndb (fun hf => ?_) (fun hf => ?_)
    · rfl
    ((apply a_ldA 0; exact rfl; exact rfl); refine a_bldT0 rfl rfl ?_; refine a_bldA rfl rfl ?_; refine a_bldT0 rfl rfl ?_; refine a_bldA rfl rfl ?_; refine a_rowAS2 rfl ?_; refine a_call0 (c10 _ _) ?_; (apply a_ext; exact rfl); (apply a_ext; exact rfl); refine a_bx fun z2 => ?_; refine a_stA 0 rfl rfl rfl rfl ?_; (apply a_ldA 1; exact rfl; exact rfl); (apply a_ldA 1; exact rfl; exact rfl); refine a_callS0 (c11 _) ?_)
    have hA : PutF t [⟨str (freshL [t] nm), .mk 1 ⟨#[]⟩ n []⟩, ⟨str (freshL [t] nm), .mk 8 ⟨#[]⟩ 0 []⟩] = (t, 0) := put_none h0 (fun x hx => by
      simp only [List.mem_cons, List.not_mem_nil, or_false] at hx
      rcases hx with rfl | rfl
      · show (sortF (.mk 1 ⟨#[]⟩ n [])).2 = 0; rw [sort_num]
      · exact (by decide +kernel : (sortF (.mk 8 ⟨#[]⟩ 0 [])).2 = 0)) (fun x hx => by
      simp only [List.mem_cons, List.not_mem_nil, or_false] at hx
      rcases hx with rfl | rfl <;> exact hf)
    obtain ⟨hC, one⟩ := put_one (str nm) n h0
    have hF := one_free (str nm) n h0
    rw [hC] at hF
    have hC' : PutF t [⟨str nm, .mk 1 ⟨#[]⟩ n []⟩, ⟨str nm, .mk 9 ⟨#[]⟩ 0 []⟩, ⟨str nm, .mk 17 ⟨#[]⟩ 0 []⟩] = (ptT (pickT (oneL (str nm) n)) t, 0) := hC
    have hsize : sizT (ptT (pickT (oneL (str nm) n)) t) 0 = sizT t 0 := by rw [sizT_min _ 0 (by omega) (by omega), sizT_min _ 0 (by omega) (by omega), one.size]
    rw [hA, names_as]
    (refine a_callS0 (c10 _ _) ?_; (apply a_ext; exact rfl); (apply a_ext; exact rfl); refine a_bx fun z3 => ?_; refine a_stA 0 rfl rfl rfl rfl ?_; refine a_bldT0 rfl rfl ?_; refine a_bldA (nm := str nm) (t := .mk 1 ⟨#[]⟩ n []) rfl rfl ?_; refine a_bldT0 rfl rfl ?_; refine a_bldA (nm := str nm) (t := .mk 9 ⟨#[]⟩ 0 []) rfl rfl ?_; refine a_bldT0 rfl rfl ?_; refine a_bldA (nm := str nm) (t := .mk 17 ⟨#[]⟩ 0 []) rfl rfl ?_; refine a_rowAS3 (x := ⟨str nm, .mk 1 ⟨#[]⟩ n []⟩) (y := ⟨str nm, .mk 9 ⟨#[]⟩ 0 []⟩) (u := ⟨str nm, .mk 17 ⟨#[]⟩ 0 []⟩) rfl ?_; (apply a_ldA 2; exact rfl; exact rfl); refine a_call0 (c10 _ _) ?_; (apply a_ext; exact rfl); (apply a_ext; exact rfl); refine a_bx fun z4 => ?_; refine a_stA 0 rfl rfl rfl rfl ?_; (apply a_ldA 3; exact rfl; exact rfl); refine a_call0 (c11 _) ?_)
    rw [put_own h0]
    clear hA
    rw [hC']
    clear hC' hC one
    generalize ptT (pickT (oneL (str nm) n)) t = u at hF hsize ⊢
    have hsame : sameF t t = true := sameF_refl (by omega)
    have hlen := namesF_len t
    simp only at hF
    refine a_lp (σ := Nat) (fun i => [.b (((NamesF t).take i).any fun x => decide (x.2 = 14) && decide (str x.1 = str nm)), .i i]) (fun _ => [⟨z4, u.cs, .box⟩, ⟨z3, t.cs, .box⟩, ⟨z2, t.cs, .box⟩, ⟨z1, t.cs, .box⟩]) (fun i => i ≤ (NamesF t).length) (fun i => (NamesF t).length - i) 0 (by first | exact Gl.refl _ _ | exact Gl.drop (by repeat (first | exact List.Sublist.refl _ | exact List.Sublist.slnil | apply List.Sublist.cons_cons | apply List.Sublist.cons))) (Nat.zero_le _) ?_
    rintro i K hi hK
    dsimp only [aix0, aix1, aix2, aix3, aix4, aix5, aix6, aix7, aix8]
    (refine a_lenM ?_; refine a_lss ?_)
    refine a_cnd (fun c1 => ?_) (fun c1 => ?_)
    · have hi1 : i < (NamesF t).length := by omega
      have et : (((NamesF t).take (i + 1)).any fun x => decide (x.2 = 14) && decide (str x.1 = str nm)) = ((((NamesF t).take i).any fun x => decide (x.2 = 14) && decide (str x.1 = str nm)) || (decide ((NamesF t)[i].2 = 14) && decide (str (NamesF t)[i].1 = str nm))) := by
        rw [List.take_succ_eq_append_getElem hi1, List.any_append]; simp
      have hK1 := hK (i + 1)
      simp only [et] at hK1
      clear hK et
      generalize ((NamesF t).take i).any (fun x => decide (x.2 = 14) && decide (str x.1 = str nm)) = bb at hK1 ⊢
      cases bb with
      | true =>
        (refine a_cndbT rfl ?_; refine a_add (by first | omega | assumption | decide) (by first | omega | assumption | decide) ?_)
        exact hK1 _ _ (by omega) (by omega) (by first | exact Gl.refl _ _ | exact Gl.drop (by repeat (first | exact List.Sublist.refl _ | exact List.Sublist.slnil | apply List.Sublist.cons_cons | apply List.Sublist.cons)))
      | false =>
        simp only [Bool.false_or] at hK1
        (refine a_cndbF rfl ?_; refine a_idxM i hi1 ?_; refine a_fldp ?_; refine a_fldp ?_; (apply a_ld1p; exact rfl); refine a_eql ?_)
        refine a_jn (σ := Bool) (fun b => [.b b]) (fun _ => [⟨z4, u.cs, .box⟩, ⟨z3, t.cs, .box⟩, ⟨z2, t.cs, .box⟩, ⟨z1, t.cs, .box⟩]) (fun b => b = (decide ((NamesF t)[i].2 = 14) && decide (str (NamesF t)[i].1 = str nm))) ?_ fun J hJ => ?_
        · rintro _ rfl
          dsimp only [aix0, aix1, aix2, aix3, aix4, aix5, aix6, aix7, aix8]
          (refine a_add (by first | omega | assumption | decide) (by first | omega | assumption | decide) ?_)
          exact hK1 _ _ (by omega) (by omega) (by first | exact Gl.refl _ _ | exact Gl.drop (by repeat (first | exact List.Sublist.refl _ | exact List.Sublist.slnil | apply List.Sublist.cons_cons | apply List.Sublist.cons)))
        · refine a_cnd (fun c2 => ?_) (fun c2 => ?_)
          · have c2 : (NamesF t)[i].2 = 14 := c2
            (refine a_idxM i hi1 ?_; refine a_fldp ?_; (apply a_ld1p; exact rfl); refine a_eqlS ?_)
            exact hJ (decide (str (NamesF t)[i].1 = str nm)) _ _ (by rw [decide_eq_true c2, Bool.true_and]) (by first | exact Gl.refl _ _ | exact Gl.drop (by repeat (first | exact List.Sublist.refl _ | exact List.Sublist.slnil | apply List.Sublist.cons_cons | apply List.Sublist.cons)))
          · have c2 : ¬ (NamesF t)[i].2 = 14 := c2
            exact hJ false _ _ (by rw [decide_eq_false c2, Bool.false_and]) (by first | exact Gl.refl _ _ | exact Gl.drop (by repeat (first | exact List.Sublist.refl _ | exact List.Sublist.slnil | apply List.Sublist.cons_cons | apply List.Sublist.cons)))
    · have hi1 : i = (NamesF t).length := by omega
      subst hi1
      rw [List.take_length, ← hF]
      clear hK
      (refine a_cndbT rfl ?_; refine a_eql ?_; refine a_cndbT rfl ?_; (apply a_ldA 2; exact rfl; exact rfl); (apply a_ldA 3; exact rfl; exact rfl); refine a_callS0 (c12 _ _) ?_; refine a_cndbT (by first | omega | assumption | decide) ?_; refine a_eql ?_; refine a_cndbT rfl ?_; (apply a_ldA 1; exact rfl; exact rfl); (apply a_ldA 3; exact rfl; exact rfl); refine a_callS0 (c12 _ _) ?_; refine a_cndbT (by first | omega | assumption | decide) ?_; refine a_eql ?_; refine a_cndbT rfl ?_; (apply a_ldA 0; exact rfl; exact rfl); refine a_callS0 (c9 _ _) ?_; refine a_eqlB ?_)
      refine a_cndbT (by simp) ?_
      ((apply a_ldA 0; exact rfl; exact rfl); refine a_callS0 (c13 _) ?_; (apply a_ldA 3; exact rfl; exact rfl); refine a_callS0 (c13 _) ?_; refine a_eql ?_)
      exact ret_b (by rw [hsize]; simp)
theorem c4 (t a b : Tm) : AFn pr 4 [t.d, a.d, b.d] [] (.ret (.b true)) := by
  refine AFn.of (s4 ?_)
  unfold A4
  (refine a_bxv fun z1 => ?_; refine a_bxv fun z2 => ?_; refine a_bxv fun z3 => ?_; refine a_call0 (c6) ?_; (apply a_ldA 2; exact rfl; exact rfl); refine a_call0 (c7 _) ?_; (apply a_ldA 1; exact rfl; exact rfl); refine a_call0 (c7 _) ?_; (apply a_ldA 0; exact rfl; exact rfl); refine a_call0 (c7 _) ?_; (apply a_ldA 1; exact rfl; exact rfl); refine a_call0 (c14 _) ?_; (apply a_ext; exact rfl); (apply a_ext; exact rfl); (apply a_ldA 0; exact rfl; exact rfl); refine a_call0 (c14 _) ?_; (apply a_ext; exact rfl); (apply a_ext; exact rfl))
  refine a_jn (σ := Unit) (fun _ => []) (fun _ => [⟨z3, b.cs, .box⟩, ⟨z2, a.cs, .box⟩, ⟨z1, t.cs, .box⟩]) (fun _ => (smallB t = true ∧ smallB a = true ∧ smallB b = true) ∧ (sortF a).1 = 1 ∧ (sortF b).1 = 1) ?_ fun J hJ => ?_
  · rintro _ ⟨⟨ht, ha, hb⟩, ha1, hb1⟩
    obtain ⟨t0, _, _⟩ := smallB_iff.1 ht
    obtain ⟨a0, _, _⟩ := smallB_iff.1 ha
    obtain ⟨b0, _, _⟩ := smallB_iff.1 hb
    have sa : sortF a = (1, 0) := Prod.ext ha1 a0
    have sb : sortF b = (1, 0) := Prod.ext hb1 b0
    obtain ⟨_, _, rt, _⟩ := sortF_ok t0
    obtain ⟨_, _, ra, ea⟩ := sortF_ok a0
    have e1 : PutF t [⟨⟨#[120]⟩, a⟩] = outF (ptT (pickT [⟨⟨#[120]⟩, a⟩]) t) := PutF_mk t0 fun x hx => by rw [List.mem_singleton] at hx; subst hx; exact a0
    dsimp only [aix0, aix1, aix2, aix3, aix4, aix5, aix6, aix7, aix8]
    ((apply a_ldA 1; exact rfl; exact rfl); refine a_bldA (nm := ⟨#[120]⟩) (t := a) rfl rfl ?_; refine a_rowAS1 (x := ⟨⟨#[120]⟩, a⟩) rfl ?_; (apply a_ldA 0; exact rfl; exact rfl); refine a_bldA (nm := ⟨#[121]⟩) (t := b) rfl rfl ?_; refine a_rowAS1 (x := ⟨⟨#[121]⟩, b⟩) rfl ?_; (apply a_ldA 2; exact rfl; exact rfl); refine a_call0 (c10 _ _) ?_; (apply a_ext; exact rfl); (apply a_ext; exact rfl); refine a_bx fun z4 => ?_; refine a_stA 0 rfl rfl rfl rfl ?_; refine a_neq ?_)
    refine a_cnd (fun q1 => ?_) (fun q1 => ?_)
    · rw [e1] at q1
      have := outF_err rt q1
      (refine a_cndbT rfl ?_; refine a_eql ?_)
      exact ret_b (by rw [e1, this]; rfl)
    · have q1 := Classical.not_not.1 q1
      obtain ⟨_, _, c0, ec⟩ := PutF_ok q1
      rw [ec]
      clear q1 e1 ec
      have two := fun (hg : sortF (ptT (pickT [⟨⟨#[121]⟩, b⟩]) a) = (1, 0)) => pt_twice (x := ⟨#[120]⟩) (y := ⟨#[121]⟩) (by decide) sa sb hg t rt
      have e2 : PutF (ptT (pickT [⟨⟨#[120]⟩, a⟩]) t) [⟨⟨#[121]⟩, b⟩] = outF (ptT (pickT [⟨⟨#[121]⟩, b⟩]) (ptT (pickT [⟨⟨#[120]⟩, a⟩]) t)) := PutF_mk c0 fun x hx => by rw [List.mem_singleton] at hx; subst hx; exact b0
      ((apply a_ldA 0; exact rfl; exact rfl); refine a_call0 (c10 _ _) ?_; (apply a_ext; exact rfl); (apply a_ext; exact rfl); refine a_bx fun z5 => ?_; refine a_stA 0 rfl rfl rfl rfl ?_; (apply a_ldA 3; exact rfl; exact rfl); refine a_call0 (c10 _ _) ?_; (apply a_ext; exact rfl); (apply a_ext; exact rfl); refine a_bx fun z6 => ?_; refine a_stA 0 rfl rfl rfl rfl ?_)
      refine a_jn (σ := Unit) (fun _ => []) (fun _ => [⟨z6, (PutF a [⟨⟨#[121]⟩, b⟩]).1.cs, .box⟩, ⟨z5, (PutF (ptT (pickT [⟨⟨#[120]⟩, a⟩]) t) [⟨⟨#[121]⟩, b⟩]).1.cs, .box⟩, ⟨z4, (ptT (pickT [⟨⟨#[120]⟩, a⟩]) t).cs, .box⟩, ⟨z3, b.cs, .box⟩, ⟨z2, a.cs, .box⟩, ⟨z1, t.cs, .box⟩]) (fun _ => (PutF (ptT (pickT [⟨⟨#[120]⟩, a⟩]) t) [⟨⟨#[121]⟩, b⟩]).2 = 0 ∧ (PutF a [⟨⟨#[121]⟩, b⟩]).2 = 0) ?_ fun J2 hJ2 => ?_
      · rintro _ ⟨q2, q3⟩
        obtain ⟨_, _, d0, ed⟩ := PutF_ok q2
        obtain ⟨_, _, g0, eg⟩ := PutF_ok q3
        rw [ed, eg]
        have sg : sortF (ptT (pickT [⟨⟨#[121]⟩, b⟩]) a) = (1, 0) := by
          have hr := pt_right [⟨⟨#[121]⟩, b⟩] a (right_of ra (show (shpAt a.op).sort = 1 by omega))
          obtain ⟨_, _, _, e⟩ := sortF_ok g0
          exact Prod.ext (by rw [e]; exact right_sort hr (by omega)) g0
        have hP : PutF t [⟨⟨#[120]⟩, ptT (pickT [⟨⟨#[121]⟩, b⟩]) a⟩, ⟨⟨#[121]⟩, b⟩] = (ptT (pickT [⟨⟨#[121]⟩, b⟩]) (ptT (pickT [⟨⟨#[120]⟩, a⟩]) t), 0) := by
          rw [PutF_mk t0 fun x hx => ?_, ← two sg]
          · exact outF_of (Prod.ext rfl d0)
          · simp only [List.mem_cons, List.not_mem_nil, or_false] at hx
            rcases hx with rfl | rfl
            · exact g0
            · exact b0
        have hsame := sameF_refl (sortF_ok d0).2.1
        clear two e2 ed eg q2 q3 sg
        generalize ptT (pickT [⟨⟨#[121]⟩, b⟩]) (ptT (pickT [⟨⟨#[120]⟩, a⟩]) t) = d at *
        generalize ptT (pickT [⟨⟨#[121]⟩, b⟩]) a = g at *
        ((apply a_ldA 5; exact rfl; exact rfl); (apply a_ldA 0; exact rfl; exact rfl); refine a_bldA (nm := ⟨#[120]⟩) (t := g) rfl rfl ?_; (apply a_ldA 3; exact rfl; exact rfl); refine a_bldA (nm := ⟨#[121]⟩) (t := b) rfl rfl ?_; refine a_rowAS2 (x := ⟨⟨#[120]⟩, g⟩) (y := ⟨⟨#[121]⟩, b⟩) rfl ?_; refine a_call0 (c10 _ _) ?_; (apply a_ext; exact rfl); (apply a_ext; exact rfl); refine a_bx fun z7 => ?_; refine a_stA 0 rfl rfl rfl rfl ?_; refine a_cndbT rfl ?_; refine a_eql ?_)
        rw [hP]
        (refine a_cndbT rfl ?_; (apply a_ldA 2; exact rfl; exact rfl); (apply a_ldA 0; exact rfl; exact rfl); refine a_call0 (c12 _ _) ?_)
        exact ret_b hsame
      · (refine a_neq ?_)
        refine a_cnd (fun q2 => ?_) (fun q2 => ?_)
        · rfl
        · (refine a_neq ?_)
          refine a_cnd (fun q3 => ?_) (fun q3 => ?_)
          · rfl
          · exact hJ2 () _ _ ⟨Classical.not_not.1 q2, Classical.not_not.1 q3⟩ (by first | exact Gl.refl _ _ | exact Gl.drop (by repeat (first | exact List.Sublist.refl _ | exact List.Sublist.slnil | apply List.Sublist.cons_cons | apply List.Sublist.cons)))
  · (refine a_not ?_)
    cases ht : smallB t with
    | false => rfl
    | true =>
      (refine a_cndbF rfl ?_; refine a_not ?_)
      cases ha : smallB a with
      | false => rfl
      | true =>
        (refine a_cndbF rfl ?_; refine a_not ?_)
        cases hb : smallB b with
        | false => rfl
        | true =>
          (refine a_cndbF rfl ?_; refine a_neq ?_)
          refine a_cnd (fun q2 => ?_) (fun q2 => ?_)
          · rfl
          · (refine a_neq ?_)
            refine a_cnd (fun q3 => ?_) (fun q3 => ?_)
            · rfl
            · exact hJ () _ _ ⟨⟨ht, ha, hb⟩, Classical.not_not.1 q2, Classical.not_not.1 q3⟩ (by first | exact Gl.refl _ _ | exact Gl.drop (by repeat (first | exact List.Sublist.refl _ | exact List.Sublist.slnil | apply List.Sublist.cons_cons | apply List.Sublist.cons)))
theorem namesN_snoc (ts : List Tm) (t : Tm) : namesN (ts ++ [t]) = namesN ts + (NamesF t).length := by
  rw [← namesN_flat, ← namesN_flat, List.flatMap_append, List.length_append]
  simp
theorem namesN_le : ∀ ts : List Tm, namesN ts ≤ 2000 * ts.length
  | [] => by simp [namesN]
  | t :: r => by have := namesN_le r; have := namesF_len t; rw [namesN, List.length_cons]; omega
theorem a_slcR {ts : List Tm} {ki : IntKind} {k : D → Prop} (n : Nat) (hn : n ≤ ts.length) (h : k (.row 4 (Tm.rows (ts.take n)))) : aslcL 4 (.row 4 (Tm.rows ts)) none (some (.val (.int ki n))) k := by
  refine ⟨rfl, 0, n, ⟨ki, rfl⟩, rfl, Nat.zero_le _, by rw [Tm.rows_len]; exact hn, _, rfl, ?_⟩
  rw [List.drop_zero, Tm.rows_eq, ← List.map_take, ← Tm.rows_eq]
  exact h
theorem c5 (ts : List Tm) (nm : List UInt8) : AFn pr 5 [.row 4 (Tm.rows ts), .s (str nm)] [] (.ret (.b true)) := by
  refine AFn.of (s5 ?_)
  unfold A5
  (refine a_call0 (c6) ?_; refine Tm.a_len ?_; refine a_min ?_)
  have em : (min (ts.length : Int) 10) = ((min ts.length 10 : Nat) : Int) := by omega
  rw [em]
  refine a_slcR (min ts.length 10) (by omega) ?_
  have hl : (ts.take (min ts.length 10)).length ≤ 10 := by rw [List.length_take]; omega
  generalize ts.take (min ts.length 10) = l at hl ⊢
  refine a_lp (σ := Nat) (fun i => [.i (namesN (l.take i)), .i i]) (fun _ => []) (fun i => i ≤ l.length) (fun i => l.length - i) 0 (by first | exact Gl.refl _ _ | exact Gl.drop (by repeat (first | exact List.Sublist.refl _ | exact List.Sublist.slnil | apply List.Sublist.cons_cons | apply List.Sublist.cons))) (Nat.zero_le _) ?_
  rintro i K hi hK
  dsimp only [aix0, aix1, aix2, aix3, aix4, aix5, aix6, aix7, aix8]
  have hN := namesN_le (l.take i)
  have hT : (l.take i).length ≤ 10 := by rw [List.length_take]; omega
  (refine Tm.a_len ?_; refine a_lss ?_)
  refine a_cnd (fun q1 => ?_) (fun q1 => ?_)
  · have hlt : i < l.length := by omega
    refine Tm.a_idx i hlt ?_
    ((apply a_ldAp; exact rfl); refine a_call0 (c7 _) ?_; refine a_not ?_)
    cases hs : smallB l[i] with
    | false => rfl
    | true =>
      (refine a_cndbF rfl ?_)
      refine Tm.a_idx i hlt ?_
      have hlen := namesF_len l[i]
      ((apply a_ldAp; exact rfl); refine a_call0 (c11 _) ?_; refine a_lenM ?_; refine a_add (by first | omega | assumption | decide) (by first | omega | assumption | decide) ?_; refine a_add (by first | omega | assumption | decide) (by first | omega | assumption | decide) ?_)
      have hK1 := hK (i + 1)
      rw [List.take_succ_eq_append_getElem hlt, namesN_snoc] at hK1
      exact hK1 _ _ hlt (by omega) (by first | exact Gl.refl _ _ | exact Gl.drop (by repeat (first | exact List.Sublist.refl _ | exact List.Sublist.slnil | apply List.Sublist.cons_cons | apply List.Sublist.cons)))
  · have hi' : i = l.length := by omega
    subst hi'
    rw [List.take_length]
    clear hK hN hT
    have hff := fun h => fresh_free (ts := l) nm h
    have hfn := fresh_name l nm
    obtain ⟨hf1, hf2⟩ := fresh_take l nm
    have hfl := name_len hfn
    have hname : AFn pr 15 [.s (str nm)] [] (.ret (.b (nameF nm))) := by have := c15 (s := str nm); rwa [str_list] at this
    have hname2 : AFn pr 15 [.s (str (freshL l nm))] [] (.ret (.b (nameF (freshL l nm)))) := by have := c15 (s := str (freshL l nm)); rwa [str_list] at this
    (refine a_call0 (c8 l nm) ?_; refine a_call0 hname ?_)
    generalize freshL l nm = f at hff hfn hf1 hf2 hfl hname2 ⊢
    refine a_jn1 [.s (str (baseL nm))] [] ?_ fun J hJ => ?_
    · dsimp only [aix0, aix1, aix2, aix3, aix4, aix5, aix6, aix7, aix8]
      have hbl := name_len (base_name nm)
      generalize baseL nm = bl at hf1 hf2 hbl ⊢
      (refine a_lenStr ?_; refine a_min ?_)
      have em2 : (min (bl.length : Int) 13) = ((min bl.length 13 : Nat) : Int) := by omega
      rw [em2]
      generalize hm : min bl.length 13 = m at hf1 hf2 ⊢
      refine a_jn1 [] [] ?_ fun J2 hJ2 => ?_
      · refine a_lp (σ := Nat) (fun i => [.i i]) (fun _ => []) (fun i => i ≤ l.length) (fun i => l.length - i) 0 (by first | exact Gl.refl _ _ | exact Gl.drop (by repeat (first | exact List.Sublist.refl _ | exact List.Sublist.slnil | apply List.Sublist.cons_cons | apply List.Sublist.cons))) (Nat.zero_le _) ?_
        rintro i K hi hK
        dsimp only [aix0, aix1, aix2, aix3, aix4, aix5, aix6, aix7, aix8]
        (refine Tm.a_len ?_; refine a_lss ?_)
        refine a_cnd (fun q2 => ?_) (fun q2 => ?_)
        · have hlt : i < l.length := by omega
          (refine a_lss ?_)
          refine a_cnd (fun q3 => ?_) (fun q3 => ?_)
          · have hfr := hff (by omega)
            have hfi : freeF l[i] (str f) = false := by
              unfold takenF at hfr
              rw [List.any_eq_false] at hfr
              simpa using hfr _ (List.getElem_mem hlt)
            refine Tm.a_idx i hlt ?_
            ((apply a_ldAp; exact rfl); refine a_call0 (c9 _ _) ?_; refine a_cndbF (by first | omega | assumption | decide) ?_; refine a_add (by first | omega | assumption | decide) (by first | omega | assumption | decide) ?_)
            exact hK (i + 1) _ _ hlt (by omega) (by first | exact Gl.refl _ _ | exact Gl.drop (by repeat (first | exact List.Sublist.refl _ | exact List.Sublist.slnil | apply List.Sublist.cons_cons | apply List.Sublist.cons)))
          · rfl
        · rfl
      · refine a_callS0 hname2 ?_
        rw [hfn]
        (refine a_not ?_; refine a_cndbF rfl ?_; refine a_lenStr ?_; refine a_lss ?_; refine a_cndF (by first | omega | assumption | decide) ?_)
        refine a_slcSt m hf1 ?_
        refine a_slcSt m (by omega) ?_
        rw [hf2]
        (refine a_neqS ?_)
        refine a_cndF (by simp) ?_
        exact hJ2 _ _ (by first | exact Gl.refl _ _ | exact Gl.drop (by repeat (first | exact List.Sublist.refl _ | exact List.Sublist.slnil | apply List.Sublist.cons_cons | apply List.Sublist.cons)))
    · refine a_cndb (fun q => ?_) (fun q => ?_)
      · have q : nameF nm = false := by simpa using q
        unfold baseL at hJ
        exact hJ _ _ (by rw [if_neg (by rw [q]; simp)]; exact (by first | exact Gl.refl _ _ | exact Gl.drop (by repeat (first | exact List.Sublist.refl _ | exact List.Sublist.slnil | apply List.Sublist.cons_cons | apply List.Sublist.cons))))
      · have q : nameF nm = true := by simpa using q
        unfold baseL at hJ
        exact hJ _ _ (by rw [if_pos q]; exact (by first | exact Gl.refl _ _ | exact Gl.drop (by repeat (first | exact List.Sublist.refl _ | exact List.Sublist.slnil | apply List.Sublist.cons_cons | apply List.Sublist.cons))))
end Go.Proofs.YtaigilchnadmpaaDoor
