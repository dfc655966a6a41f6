/- Contracts of the document's Norm; the law NormTells. -/
import Derived.Test.YtlonmopppgadgaaDoorC9
import Derived.Test.YtlonmopppgadgaaDoorC7
set_option maxRecDepth 100000
set_option linter.unusedVariables false
namespace Go.Proofs.YtlonmopppgadgaaDoor
open Go Go.V
theorem c78 (op : Int) (x y : Tm) : AFn pr 78 [.i op, x.d, y.d] [] (.ret (mk op [x, y]).d) := by
  refine AFn.of (s78 ?_)
  unfold A78
  (refine a_bxv fun z1 => ?_; refine a_bxv fun z2 => ?_; refine a_bx fun z3 => ?_; (apply a_ldA 2; exact rfl; exact rfl); (apply a_ldA 1; exact rfl; exact rfl); refine a_rowS2 rfl ?_; refine a_bldT rfl rfl ?_; refine a_stA 0 rfl rfl rfl rfl ?_; (apply a_ldA 0; exact rfl; exact rfl))
  rfl
theorem c79 (x : Tm) : AFn pr 79 [x.d] [] (.ret (mk 18 [x]).d) := by
  refine AFn.of (s79 ?_)
  unfold A79
  (refine a_bxv fun z1 => ?_; refine a_bx fun z2 => ?_; (apply a_ldA 1; exact rfl; exact rfl); refine a_rowS1 rfl ?_; refine a_bldT rfl rfl ?_; refine a_stA 0 rfl rfl rfl rfl ?_; (apply a_ldA 0; exact rfl; exact rfl))
  rfl
theorem c80 (x y : Tm) : AFn pr 80 [x.d, y.d] [] (.ret (emptyT (mk 13 [x, y])).d) := by
  refine AFn.of (s80 ?_)
  unfold A80
  (refine a_bxv fun z1 => ?_; refine a_bxv fun z2 => ?_; refine a_bx fun z3 => ?_; (apply a_ldA 2; exact rfl; exact rfl); (apply a_ldA 1; exact rfl; exact rfl); refine a_call0 (c78 _ _ _) ?_; refine a_rowS1 rfl ?_; refine a_bldT rfl rfl ?_; refine a_bx fun z4 => ?_; refine a_stA 0 rfl rfl rfl rfl ?_; (apply a_ldA 0; exact rfl; exact rfl); refine a_bldT0 rfl rfl ?_; refine a_call0 (c78 _ _ _) ?_; refine a_stA 1 rfl rfl rfl rfl ?_; (apply a_ldA 1; exact rfl; exact rfl))
  rfl
theorem c81 (x : Tm) : AFn pr 81 [x.d] [] (.ret (mk 10 [x]).d) := by
  refine AFn.of (s81 ?_)
  unfold A81
  (refine a_bxv fun z1 => ?_; refine a_bx fun z2 => ?_; (apply a_ldA 1; exact rfl; exact rfl); refine a_rowS1 rfl ?_; refine a_bldT rfl rfl ?_; refine a_stA 0 rfl rfl rfl rfl ?_; (apply a_ldA 0; exact rfl; exact rfl))
  rfl
theorem up_many {op op' : Int} {a : List Tm} (ho : op = 19 ∨ op = 20) (hl : a.length ≤ 2000) (hr : ∀ x ∈ a, AFn pr 44 [x.d] [] (.ret (normT x false).d)) :
    AFn pr 44 [(mk op a).d] [] (.ret (mk op (a.map (normT · false))).d) := by
  refine AFn.ofGe (s44 ?_)
  unfold A44
  have e1 : (mk op a).op = op := rfl
  have e2 : (mk op a).a.length = a.length := rfl
  (refine a_bxv fun z1 => ?_; refine a_bx fun z2 => ?_; refine a_fld ?_; (apply a_ld1 1; exact rfl; exact rfl); refine a_eql ?_; refine a_cndF (by first | omega | assumption | decide) ?_)
  refine a_jn1 [.b true] [⟨z2, [.i 0, .s ⟨#[]⟩, .i 0, .nil], .box⟩, ⟨z1, (mk op a).cs, .box⟩] ?_ fun J hJ => ?_
  · dsimp only [aix0, aix1, aix2, aix3, aix4, aix5, aix6, aix7, aix8]
    (refine a_cndbT rfl ?_; refine a_fld ?_; (apply a_ld1 1; exact rfl; exact rfl); refine a_bld [_, _, _, .nil] rfl rfl ?_; refine a_bx fun z3 => ?_; refine a_stA 0 rfl rfl rfl rfl ?_)
    refine a_lp3 (σ := Nat) (τ := Nat) (ρ := Nat) (fun i _ _ => [.i i]) (fun i b c => bbT 24 b c ((a.take i).map (normT · false)) ++ [⟨z3, [.i op, .s ⟨#[]⟩, .i 0, bvT b c ((a.take i).map (normT · false))], .box⟩, ⟨z2, [.i 0, .s ⟨#[]⟩, .i 0, .nil], .box⟩, ⟨z1, (mk op a).cs, .box⟩]) (fun i _ _ => i ≤ a.length) (fun i _ _ => a.length - i) 0 0 0 (by first | exact Gl.refl _ _ | exact Gl.drop (by repeat (first | exact List.Sublist.refl _ | exact List.Sublist.slnil | apply List.Sublist.cons_cons | apply List.Sublist.cons))) (Nat.zero_le _) ?_
    rintro i b c K hi hK
    dsimp only [aix0, aix1, aix2, aix3, aix4, aix5, aix6, aix7, aix8]
    have et : i < a.length → (a.take (i + 1)).map (normT · false) = (a.take i).map (normT · false) ++ [normT (a.getD i (mk 0 [])) false] := by
      intro hlt
      rw [List.take_succ_eq_append_getElem hlt, List.map_append, List.getD_eq_getElem?_getD, List.getElem?_eq_getElem hlt]; rfl
    have el : ((a.take i).map (normT · false)).length = i := by rw [List.length_map, List.length_take]; omega
    have hend : i = a.length → (a.take i).map (normT · false) = a.map (normT · false) := fun h => by rw [h, List.take_length]
    specialize hK (i + 1)
    generalize hlist : (a.take i).map (normT · false) = l at hK el et hend ⊢
    cases l with
    | nil =>
      (refine a_fld ?_; (apply a_ld1 2; exact rfl; exact rfl); refine Tm.a_len ?_; refine a_lss ?_)
      refine a_cnd (fun h5 => ?_) (fun h5 => ?_)
      · have hlt : i < a.length := by omega
        rw [et hlt, List.getD_eq_getElem?_getD, List.getElem?_eq_getElem hlt] at hK
        (refine a_fld ?_; (apply a_ld1 0; exact rfl; exact rfl); refine a_fld ?_; (apply a_ld1 2; exact rfl; exact rfl))
        refine Tm.a_idx i hlt ?_
        ((apply a_ldAp; exact rfl))
        refine a_callS0 (hr _ (List.getElem_mem hlt)) ?_
        (refine a_rowT1 rfl ?_)
        refine a_appT0 fun b' c' => ?_
        (refine a_fld ?_; (apply a_st 1 _; exact rfl; exact rfl; exact rfl; exact rfl; (try dsimp only [afill, aparts, cl, chunk, List.take, List.drop, List.nil_append, List.cons_append, List.append_nil, List.length_cons, List.length_nil, Nat.zero_add, Nat.reduceAdd, Nat.reduceMul]); try exact rfl); refine a_add (by first | omega | assumption | decide) (by first | omega | assumption | decide) ?_)
        exact hK b' c' _ _ (by omega) (by omega) (by first | exact Gl.refl _ _ | exact Gl.drop (by repeat (first | exact List.Sublist.refl _ | exact List.Sublist.slnil | apply List.Sublist.cons_cons | apply List.Sublist.cons)))
      · rw [← hend (by omega)]
        ((apply a_ldA 0; exact rfl; exact rfl); refine a_stA 1 rfl rfl rfl rfl ?_; (apply a_ldA 1; exact rfl; exact rfl))
        exact ge_mkT (e := 0) (.inl rfl)
    | cons y l =>
      simp only [bbT, List.cons_append, List.nil_append]
      (refine a_fld ?_; (apply a_ld1 3; exact rfl; exact rfl); refine Tm.a_len ?_; refine a_lss ?_)
      refine a_cnd (fun h5 => ?_) (fun h5 => ?_)
      · have hlt : i < a.length := by omega
        rw [et hlt, List.getD_eq_getElem?_getD, List.getElem?_eq_getElem hlt] at hK
        (refine a_fld ?_; (apply a_ld1 1; exact rfl; exact rfl); refine a_fld ?_; (apply a_ld1 3; exact rfl; exact rfl))
        refine Tm.a_idx i hlt ?_
        ((apply a_ldAp; exact rfl))
        refine a_callS0 (hr _ (List.getElem_mem hlt)) ?_
        (refine a_rowT1 rfl ?_)
        refine a_appT1 0 rfl (by simp only [List.length_cons] at el; omega) fun b' c' => ?_
        (refine a_fld ?_; (apply a_st 1 _; exact rfl; exact rfl; exact rfl; exact rfl; (try dsimp only [afill, aparts, cl, chunk, List.take, List.drop, List.nil_append, List.cons_append, List.append_nil, List.length_cons, List.length_nil, Nat.zero_add, Nat.reduceAdd, Nat.reduceMul]); try exact rfl); refine a_add (by first | omega | assumption | decide) (by first | omega | assumption | decide) ?_)
        exact hK b' c' _ _ (by omega) (by omega) (by first | exact Gl.refl _ _ | exact Gl.drop (by repeat (first | exact List.Sublist.refl _ | exact List.Sublist.slnil | apply List.Sublist.cons_cons | apply List.Sublist.cons)))
      · rw [← hend (by omega)]
        ((apply a_ldA 1; exact rfl; exact rfl); refine a_stA 2 rfl rfl rfl rfl ?_; (apply a_ldA 2; exact rfl; exact rfl))
        exact ge_mkT (.inr ⟨0, rfl⟩)
  · rcases ho with rfl | rfl
    · (refine a_eql ?_; refine a_cndbT rfl ?_)
      exact hJ _ _ (by first | exact Gl.refl _ _ | exact Gl.drop (by repeat (first | exact List.Sublist.refl _ | exact List.Sublist.slnil | apply List.Sublist.cons_cons | apply List.Sublist.cons)))
    · (refine a_eql ?_; refine a_cndbF rfl ?_; refine a_eql ?_)
      exact hJ _ _ (by first | exact Gl.refl _ _ | exact Gl.drop (by repeat (first | exact List.Sublist.refl _ | exact List.Sublist.slnil | apply List.Sublist.cons_cons | apply List.Sublist.cons)))
theorem down_many {op op' : Int} {a : List Tm} (ho : op = 19 ∨ op = 20) (hl : a.length ≤ 2000) (hr : ∀ x ∈ a, AFn pr 77 [x.d] [] (.ret (normT x true).d)) :
    AFn pr 77 [(mk op a).d] [] (.ret (mk (39 - op) (a.map (normT · true))).d) := by
  refine AFn.ofGe (s77 ?_)
  unfold A77
  have e1 : (mk op a).op = op := rfl
  have e2 : (mk op a).a.length = a.length := rfl
  (refine a_bxv fun z1 => ?_; refine a_bx fun z2 => ?_; refine a_fld ?_; (apply a_ld1 1; exact rfl; exact rfl); refine a_eql ?_; refine a_cndF (by first | omega | assumption | decide) ?_; refine a_eql ?_; refine a_cndF (by first | omega | assumption | decide) ?_; refine a_eql ?_; refine a_cndF (by first | omega | assumption | decide) ?_)
  refine a_jn1 [.b true] [⟨z2, [.i 0, .s ⟨#[]⟩, .i 0, .nil], .box⟩, ⟨z1, (mk op a).cs, .box⟩] ?_ fun J hJ => ?_
  · dsimp only [aix0, aix1, aix2, aix3, aix4, aix5, aix6, aix7, aix8]
    (refine a_cndbT rfl ?_; refine a_fld ?_; (apply a_ld1 1; exact rfl; exact rfl); refine a_sub (by first | omega | assumption | decide) (by first | omega | assumption | decide) ?_; refine a_bld [_, _, _, .nil] rfl rfl ?_; refine a_bx fun z3 => ?_; refine a_stA 0 rfl rfl rfl rfl ?_)
    refine a_lp3 (σ := Nat) (τ := Nat) (ρ := Nat) (fun i _ _ => [.i i]) (fun i b c => bbT 24 b c ((a.take i).map (normT · true)) ++ [⟨z3, [.i (39 - op), .s ⟨#[]⟩, .i 0, bvT b c ((a.take i).map (normT · true))], .box⟩, ⟨z2, [.i 0, .s ⟨#[]⟩, .i 0, .nil], .box⟩, ⟨z1, (mk op a).cs, .box⟩]) (fun i _ _ => i ≤ a.length) (fun i _ _ => a.length - i) 0 0 0 (by first | exact Gl.refl _ _ | exact Gl.drop (by repeat (first | exact List.Sublist.refl _ | exact List.Sublist.slnil | apply List.Sublist.cons_cons | apply List.Sublist.cons))) (Nat.zero_le _) ?_
    rintro i b c K hi hK
    dsimp only [aix0, aix1, aix2, aix3, aix4, aix5, aix6, aix7, aix8]
    have et : i < a.length → (a.take (i + 1)).map (normT · true) = (a.take i).map (normT · true) ++ [normT (a.getD i (mk 0 [])) true] := by
      intro hlt
      rw [List.take_succ_eq_append_getElem hlt, List.map_append, List.getD_eq_getElem?_getD, List.getElem?_eq_getElem hlt]; rfl
    have el : ((a.take i).map (normT · true)).length = i := by rw [List.length_map, List.length_take]; omega
    have hend : i = a.length → (a.take i).map (normT · true) = a.map (normT · true) := fun h => by rw [h, List.take_length]
    specialize hK (i + 1)
    generalize hlist : (a.take i).map (normT · true) = l at hK el et hend ⊢
    cases l with
    | nil =>
      (refine a_fld ?_; (apply a_ld1 2; exact rfl; exact rfl); refine Tm.a_len ?_; refine a_lss ?_)
      refine a_cnd (fun h5 => ?_) (fun h5 => ?_)
      · have hlt : i < a.length := by omega
        rw [et hlt, List.getD_eq_getElem?_getD, List.getElem?_eq_getElem hlt] at hK
        (refine a_fld ?_; (apply a_ld1 0; exact rfl; exact rfl); refine a_fld ?_; (apply a_ld1 2; exact rfl; exact rfl))
        refine Tm.a_idx i hlt ?_
        ((apply a_ldAp; exact rfl))
        refine a_callS0 (hr _ (List.getElem_mem hlt)) ?_
        (refine a_rowT1 rfl ?_)
        refine a_appT0 fun b' c' => ?_
        (refine a_fld ?_; (apply a_st 1 _; exact rfl; exact rfl; exact rfl; exact rfl; (try dsimp only [afill, aparts, cl, chunk, List.take, List.drop, List.nil_append, List.cons_append, List.append_nil, List.length_cons, List.length_nil, Nat.zero_add, Nat.reduceAdd, Nat.reduceMul]); try exact rfl); refine a_add (by first | omega | assumption | decide) (by first | omega | assumption | decide) ?_)
        exact hK b' c' _ _ (by omega) (by omega) (by first | exact Gl.refl _ _ | exact Gl.drop (by repeat (first | exact List.Sublist.refl _ | exact List.Sublist.slnil | apply List.Sublist.cons_cons | apply List.Sublist.cons)))
      · rw [← hend (by omega)]
        ((apply a_ldA 0; exact rfl; exact rfl); refine a_stA 1 rfl rfl rfl rfl ?_; (apply a_ldA 1; exact rfl; exact rfl))
        exact ge_mkT (e := 0) (.inl rfl)
    | cons y l =>
      simp only [bbT, List.cons_append, List.nil_append]
      (refine a_fld ?_; (apply a_ld1 3; exact rfl; exact rfl); refine Tm.a_len ?_; refine a_lss ?_)
      refine a_cnd (fun h5 => ?_) (fun h5 => ?_)
      · have hlt : i < a.length := by omega
        rw [et hlt, List.getD_eq_getElem?_getD, List.getElem?_eq_getElem hlt] at hK
        (refine a_fld ?_; (apply a_ld1 1; exact rfl; exact rfl); refine a_fld ?_; (apply a_ld1 3; exact rfl; exact rfl))
        refine Tm.a_idx i hlt ?_
        ((apply a_ldAp; exact rfl))
        refine a_callS0 (hr _ (List.getElem_mem hlt)) ?_
        (refine a_rowT1 rfl ?_)
        refine a_appT1 0 rfl (by simp only [List.length_cons] at el; omega) fun b' c' => ?_
        (refine a_fld ?_; (apply a_st 1 _; exact rfl; exact rfl; exact rfl; exact rfl; (try dsimp only [afill, aparts, cl, chunk, List.take, List.drop, List.nil_append, List.cons_append, List.append_nil, List.length_cons, List.length_nil, Nat.zero_add, Nat.reduceAdd, Nat.reduceMul]); try exact rfl); refine a_add (by first | omega | assumption | decide) (by first | omega | assumption | decide) ?_)
        exact hK b' c' _ _ (by omega) (by omega) (by first | exact Gl.refl _ _ | exact Gl.drop (by repeat (first | exact List.Sublist.refl _ | exact List.Sublist.slnil | apply List.Sublist.cons_cons | apply List.Sublist.cons)))
      · rw [← hend (by omega)]
        ((apply a_ldA 1; exact rfl; exact rfl); refine a_stA 2 rfl rfl rfl rfl ?_; (apply a_ldA 2; exact rfl; exact rfl))
        exact ge_mkT (.inr ⟨0, rfl⟩)
  · rcases ho with rfl | rfl
    · (refine a_eql ?_; refine a_cndbT rfl ?_)
      exact hJ _ _ (by first | exact Gl.refl _ _ | exact Gl.drop (by repeat (first | exact List.Sublist.refl _ | exact List.Sublist.slnil | apply List.Sublist.cons_cons | apply List.Sublist.cons)))
    · (refine a_eql ?_; refine a_cndbF rfl ?_; refine a_eql ?_)
      exact hJ _ _ (by first | exact Gl.refl _ _ | exact Gl.drop (by repeat (first | exact List.Sublist.refl _ | exact List.Sublist.slnil | apply List.Sublist.cons_cons | apply List.Sublist.cons)))
theorem updown (t : Tm) : rightT t 4 = true → t.size ≤ 2000 → AFn pr 44 [t.d] [] (.ret (normT t false).d) ∧ AFn pr 77 [t.d] [] (.ret (normT t true).d) := by
  induction t using Tm.ind' with
  | h t ih =>
    intro h hsz
    have hrun : ∀ x ∈ t.a, rightT x 4 = true → AFn pr 44 [x.d] [] (.ret (normT x false).d) ∧ AFn pr 77 [x.d] [] (.ret (normT x true).d) := fun x hx hr => ih x hx hr (by have := Tm.size_mem hx; rw [Tm.size_eq] at hsz; omega)
    have hl : t.a.length ≤ 2000 := by have := Tm.len_size t.a; rw [Tm.size_eq] at hsz; omega
    clear ih hsz
    revert hrun hl
    refine bool_cases (P := fun t => (∀ x ∈ t.a, rightT x 4 = true → AFn pr 44 [x.d] [] (.ret (normT x false).d) ∧ AFn pr 77 [x.d] [] (.ret (normT x true).d)) → t.a.length ≤ 2000 → AFn pr 44 [t.d] [] (.ret (normT t false).d) ∧ AFn pr 77 [t.d] [] (.ret (normT t true).d)) h ?_ ?_ ?_ ?_ ?_ ?_ ?_
    · intro nm n a _ _
      have hu : AFn pr 44 [(Tm.mk 15 nm n a).d] [] (.ret (normT (Tm.mk 15 nm n a) false).d) := by
        refine AFn.of (s44 ?_)
        unfold A44
        (refine a_bxv fun z1 => ?_; refine a_bx fun z2 => ?_; refine a_fld ?_; (apply a_ld1 1; exact rfl; exact rfl); refine a_eql ?_; refine a_cndbF rfl ?_; (apply a_jnX; intro J hJ); refine a_eql ?_; refine a_cndbF rfl ?_; refine a_eql ?_; exact hJ; dsimp only [aix0, aix1, aix2, aix3, aix4, aix5, aix6, aix7, aix8]; refine a_cndbF rfl ?_; refine a_eql ?_; refine a_cndbF rfl ?_; refine a_eql ?_; refine a_cndbF rfl ?_; refine a_eql ?_; refine a_cndbF rfl ?_; refine a_eql ?_; refine a_cndbF rfl ?_; refine a_eql ?_; refine a_cndbF rfl ?_; refine a_eql ?_; refine a_cndbF rfl ?_; refine a_eql ?_; refine a_cndbF rfl ?_; (apply a_ldA 1; exact rfl; exact rfl); refine a_stA 0 rfl rfl rfl rfl ?_; (apply a_ldA 0; exact rfl; exact rfl))
        rw [normT_15]; rfl
      refine ⟨hu, AFn.of (s77 ?_)⟩
      unfold A77
      (refine a_bxv fun z1 => ?_; refine a_bx fun z2 => ?_; refine a_fld ?_; (apply a_ld1 1; exact rfl; exact rfl); refine a_eql ?_; refine a_cndbF rfl ?_; refine a_eql ?_; refine a_cndbF rfl ?_; refine a_eql ?_; refine a_cndbF rfl ?_; (apply a_jnX; intro J hJ); refine a_eql ?_; refine a_cndbF rfl ?_; refine a_eql ?_; exact hJ; dsimp only [aix0, aix1, aix2, aix3, aix4, aix5, aix6, aix7, aix8]; refine a_cndbF rfl ?_; refine a_eql ?_; refine a_cndbF rfl ?_; refine a_eql ?_; refine a_cndbF rfl ?_; refine a_eql ?_; refine a_cndbF rfl ?_; refine a_eql ?_; refine a_cndbF rfl ?_; (apply a_ldA 1; exact rfl; exact rfl); refine a_call0 hu ?_; refine a_call0 (c79 _) ?_; refine a_stA 0 rfl rfl rfl rfl ?_; (apply a_ldA 0; exact rfl; exact rfl))
      rw [normT_15, normT_15]; rfl
    · intro op ho _ _
      rcases ho with rfl | rfl
      · refine ⟨AFn.of (s44 ?_), AFn.of (s77 ?_)⟩
        · unfold A44
          (refine a_bxv fun z1 => ?_; refine a_bx fun z2 => ?_; refine a_fld ?_; (apply a_ld1 1; exact rfl; exact rfl); refine a_eql ?_; refine a_cndbF rfl ?_; (apply a_jnX; intro J hJ); refine a_eql ?_; refine a_cndbF rfl ?_; refine a_eql ?_; exact hJ; dsimp only [aix0, aix1, aix2, aix3, aix4, aix5, aix6, aix7, aix8]; refine a_cndbF rfl ?_; refine a_eql ?_; refine a_cndbF rfl ?_; refine a_eql ?_; refine a_cndbF rfl ?_; refine a_eql ?_; refine a_cndbF rfl ?_; refine a_eql ?_; refine a_cndbF rfl ?_; refine a_eql ?_; refine a_cndbF rfl ?_; refine a_eql ?_; refine a_cndbF rfl ?_; refine a_eql ?_; refine a_cndbF rfl ?_; (apply a_ldA 1; exact rfl; exact rfl); refine a_stA 0 rfl rfl rfl rfl ?_; (apply a_ldA 0; exact rfl; exact rfl))
          rw [normT_16 (.inl rfl)]; rfl
        · unfold A77
          (refine a_bxv fun z1 => ?_; refine a_bx fun z2 => ?_; refine a_fld ?_; (apply a_ld1 1; exact rfl; exact rfl); refine a_eql ?_; refine a_cndbT rfl ?_; refine a_bldT0 rfl rfl ?_; refine a_stA 0 rfl rfl rfl rfl ?_; (apply a_ldA 0; exact rfl; exact rfl))
          rw [normT_16 (.inl rfl)]; rfl
      · refine ⟨AFn.of (s44 ?_), AFn.of (s77 ?_)⟩
        · unfold A44
          (refine a_bxv fun z1 => ?_; refine a_bx fun z2 => ?_; refine a_fld ?_; (apply a_ld1 1; exact rfl; exact rfl); refine a_eql ?_; refine a_cndbF rfl ?_; (apply a_jnX; intro J hJ); refine a_eql ?_; refine a_cndbF rfl ?_; refine a_eql ?_; exact hJ; dsimp only [aix0, aix1, aix2, aix3, aix4, aix5, aix6, aix7, aix8]; refine a_cndbF rfl ?_; refine a_eql ?_; refine a_cndbF rfl ?_; refine a_eql ?_; refine a_cndbF rfl ?_; refine a_eql ?_; refine a_cndbF rfl ?_; refine a_eql ?_; refine a_cndbF rfl ?_; refine a_eql ?_; refine a_cndbF rfl ?_; refine a_eql ?_; refine a_cndbF rfl ?_; refine a_eql ?_; refine a_cndbF rfl ?_; (apply a_ldA 1; exact rfl; exact rfl); refine a_stA 0 rfl rfl rfl rfl ?_; (apply a_ldA 0; exact rfl; exact rfl))
          rw [normT_16 (.inr rfl)]; rfl
        · unfold A77
          (refine a_bxv fun z1 => ?_; refine a_bx fun z2 => ?_; refine a_fld ?_; (apply a_ld1 1; exact rfl; exact rfl); refine a_eql ?_; refine a_cndbF rfl ?_; refine a_eql ?_; refine a_cndbT rfl ?_; refine a_bldT0 rfl rfl ?_; refine a_stA 0 rfl rfl rfl rfl ?_; (apply a_ldA 0; exact rfl; exact rfl))
          rw [normT_16 (.inr rfl)]; rfl
    · intro x hx hr _
      obtain ⟨h1, h2⟩ := hr x (by simp [mk, Tm.a]) hx
      refine ⟨AFn.of (s44 ?_), AFn.of (s77 ?_)⟩
      · unfold A44
        (refine a_bxv fun z1 => ?_; refine a_bx fun z2 => ?_; refine a_fld ?_; (apply a_ld1 1; exact rfl; exact rfl); refine a_eql ?_; refine a_cndbT rfl ?_; refine a_fld ?_; (apply a_ld1 1; exact rfl; exact rfl); refine a_idxT0 ?_; (apply a_ldAp; exact rfl); refine a_call0 h2 ?_; refine a_stA 0 rfl rfl rfl rfl ?_; (apply a_ldA 0; exact rfl; exact rfl))
        rw [normT_not]; rfl
      · unfold A77
        (refine a_bxv fun z1 => ?_; refine a_bx fun z2 => ?_; refine a_fld ?_; (apply a_ld1 1; exact rfl; exact rfl); refine a_eql ?_; refine a_cndbF rfl ?_; refine a_eql ?_; refine a_cndbF rfl ?_; refine a_eql ?_; refine a_cndbT rfl ?_; refine a_fld ?_; (apply a_ld1 1; exact rfl; exact rfl); refine a_idxT0 ?_; (apply a_ldAp; exact rfl); refine a_call0 h1 ?_; refine a_stA 0 rfl rfl rfl rfl ?_; (apply a_ldA 0; exact rfl; exact rfl))
        rw [normT_not]; rfl
    · intro op a ho hx hr hl
      have hl : a.length ≤ 2000 := hl
      have h1 := up_many (op' := 0) ho hl fun x hx' => (hr x hx' (hx x hx')).1
      have h2 := down_many (op' := 0) ho hl fun x hx' => (hr x hx' (hx x hx')).2
      rw [normT_19 ho, normT_19 ho]
      refine ⟨h1, ?_⟩
      rw [show (if true = true then turnedF op else op) = 39 - op by rcases ho with rfl | rfl <;> rfl]
      exact h2
    · intro x y hx hy hr _
      obtain ⟨h1, h2⟩ := hr x (by simp [mk, Tm.a]) hx
      obtain ⟨h3, h4⟩ := hr y (by simp [mk, Tm.a]) hy
      refine ⟨AFn.of (s44 ?_), AFn.of (s77 ?_)⟩
      · unfold A44
        (refine a_bxv fun z1 => ?_; refine a_bx fun z2 => ?_; refine a_fld ?_; (apply a_ld1 1; exact rfl; exact rfl); refine a_eql ?_; refine a_cndbF rfl ?_; (apply a_jnX; intro J hJ); refine a_eql ?_; refine a_cndbF rfl ?_; refine a_eql ?_; exact hJ; dsimp only [aix0, aix1, aix2, aix3, aix4, aix5, aix6, aix7, aix8]; refine a_cndbF rfl ?_; refine a_eql ?_; refine a_cndbT rfl ?_; refine a_fld ?_; (apply a_ld1 1; exact rfl; exact rfl); refine a_idxT0 ?_; (apply a_ldAp; exact rfl); refine a_callS0 h2 ?_; refine a_fld ?_; (apply a_ld1 1; exact rfl; exact rfl); refine a_idxT1 ?_; (apply a_ldAp; exact rfl); refine a_callS0 h3 ?_; refine a_callS0 (c78 _ _ _) ?_; refine a_stA 0 rfl rfl rfl rfl ?_; (apply a_ldA 0; exact rfl; exact rfl))
        rw [normT_21]; rfl
      · unfold A77
        (refine a_bxv fun z1 => ?_; refine a_bx fun z2 => ?_; refine a_fld ?_; (apply a_ld1 1; exact rfl; exact rfl); refine a_eql ?_; refine a_cndbF rfl ?_; refine a_eql ?_; refine a_cndbF rfl ?_; refine a_eql ?_; refine a_cndbF rfl ?_; (apply a_jnX; intro J hJ); refine a_eql ?_; refine a_cndbF rfl ?_; refine a_eql ?_; exact hJ; dsimp only [aix0, aix1, aix2, aix3, aix4, aix5, aix6, aix7, aix8]; refine a_cndbF rfl ?_; refine a_eql ?_; refine a_cndbT rfl ?_; refine a_fld ?_; (apply a_ld1 1; exact rfl; exact rfl); refine a_idxT0 ?_; (apply a_ldAp; exact rfl); refine a_callS0 h1 ?_; refine a_fld ?_; (apply a_ld1 1; exact rfl; exact rfl); refine a_idxT1 ?_; (apply a_ldAp; exact rfl); refine a_callS0 h4 ?_; refine a_callS0 (c78 _ _ _) ?_; refine a_stA 0 rfl rfl rfl rfl ?_; (apply a_ldA 0; exact rfl; exact rfl))
        rw [normT_21]; rfl
    · intro x y _ _
      have hu : AFn pr 44 [(leT x y).d] [] (.ret (normT (leT x y) false).d) := by
        refine AFn.of (s44 ?_)
        unfold A44
        (refine a_bxv fun z1 => ?_; refine a_bx fun z2 => ?_; refine a_fld ?_; (apply a_ld1 1; exact rfl; exact rfl); refine a_eql ?_; refine a_cndbF rfl ?_; (apply a_jnX; intro J hJ); refine a_eql ?_; refine a_cndbF rfl ?_; refine a_eql ?_; exact hJ; dsimp only [aix0, aix1, aix2, aix3, aix4, aix5, aix6, aix7, aix8]; refine a_cndbF rfl ?_; refine a_eql ?_; refine a_cndbF rfl ?_; refine a_eql ?_; refine a_cndbF rfl ?_; refine a_eql ?_; refine a_cndbF rfl ?_; refine a_eql ?_; refine a_cndbF rfl ?_; refine a_eql ?_; refine a_cndbF rfl ?_; refine a_eql ?_; refine a_cndbF rfl ?_; refine a_eql ?_; refine a_cndbF rfl ?_; (apply a_ldA 1; exact rfl; exact rfl); refine a_stA 0 rfl rfl rfl rfl ?_; (apply a_ldA 0; exact rfl; exact rfl))
        rw [normT_le]; rfl
      refine ⟨hu, AFn.of (s77 ?_)⟩
      unfold A77
      (refine a_bxv fun z1 => ?_; refine a_bx fun z2 => ?_; refine a_fld ?_; (apply a_ld1 1; exact rfl; exact rfl); refine a_eql ?_; refine a_cndbF rfl ?_; refine a_eql ?_; refine a_cndbF rfl ?_; refine a_eql ?_; refine a_cndbF rfl ?_; (apply a_jnX; intro J hJ); refine a_eql ?_; refine a_cndbF rfl ?_; refine a_eql ?_; exact hJ; dsimp only [aix0, aix1, aix2, aix3, aix4, aix5, aix6, aix7, aix8]; refine a_cndbF rfl ?_; refine a_eql ?_; refine a_cndbF rfl ?_; refine a_eql ?_; refine a_cndbF rfl ?_; refine a_eql ?_; refine a_cndbF rfl ?_; refine a_eql ?_; refine a_cndbF rfl ?_; (apply a_ldA 1; exact rfl; exact rfl); refine a_call0 hu ?_; refine a_call0 (c79 _) ?_; refine a_stA 0 rfl rfl rfl rfl ?_; (apply a_ldA 0; exact rfl; exact rfl))
      rw [normT_le, normT_le]; rfl
    · intro op x y h1 h2 _ _
      have hop : op = 23 ∨ op = 24 ∨ op = 25 ∨ op = 26 ∨ op = 27 ∨ op = 28 := by omega
      rcases hop with rfl | rfl | rfl | rfl | rfl | rfl
      · have hu : AFn pr 44 [(mk 23 [x, y]).d] [] (.ret (normT (mk 23 [x, y]) false).d) := by
          refine AFn.of (s44 ?_)
          unfold A44
          (refine a_bxv fun z1 => ?_; refine a_bx fun z2 => ?_; refine a_fld ?_; (apply a_ld1 1; exact rfl; exact rfl); refine a_eql ?_; refine a_cndbF rfl ?_; (apply a_jnX; intro J hJ); refine a_eql ?_; refine a_cndbF rfl ?_; refine a_eql ?_; exact hJ; dsimp only [aix0, aix1, aix2, aix3, aix4, aix5, aix6, aix7, aix8]; refine a_cndbF rfl ?_; refine a_eql ?_; refine a_cndbF rfl ?_; refine a_eql ?_; refine a_cndbT rfl ?_; refine a_fld ?_; (apply a_ld1 1; exact rfl; exact rfl); refine a_idxT1 ?_; (apply a_ldAp; exact rfl); refine a_fld ?_; (apply a_ld1 1; exact rfl; exact rfl); refine a_idxT0 ?_; (apply a_ldAp; exact rfl); refine a_callS0 (c78 _ _ _) ?_; refine a_callS0 (c79 _) ?_; refine a_stA 0 rfl rfl rfl rfl ?_; (apply a_ldA 0; exact rfl; exact rfl))
          rw [normT_23]; rfl
        refine ⟨hu, AFn.of (s77 ?_)⟩
        unfold A77
        (refine a_bxv fun z1 => ?_; refine a_bx fun z2 => ?_; refine a_fld ?_; (apply a_ld1 1; exact rfl; exact rfl); refine a_eql ?_; refine a_cndbF rfl ?_; refine a_eql ?_; refine a_cndbF rfl ?_; refine a_eql ?_; refine a_cndbF rfl ?_; (apply a_jnX; intro J hJ); refine a_eql ?_; refine a_cndbF rfl ?_; refine a_eql ?_; exact hJ; dsimp only [aix0, aix1, aix2, aix3, aix4, aix5, aix6, aix7, aix8]; refine a_cndbF rfl ?_; refine a_eql ?_; refine a_cndbF rfl ?_; refine a_eql ?_; refine a_cndbT rfl ?_; refine a_fld ?_; (apply a_ld1 1; exact rfl; exact rfl); refine a_idxT1 ?_; (apply a_ldAp; exact rfl); refine a_fld ?_; (apply a_ld1 1; exact rfl; exact rfl); refine a_idxT0 ?_; (apply a_ldAp; exact rfl); refine a_callS0 (c78 _ _ _) ?_; refine a_stA 0 rfl rfl rfl rfl ?_; (apply a_ldA 0; exact rfl; exact rfl))
        rw [normT_23]; rfl
      · have hu : AFn pr 44 [(mk 24 [x, y]).d] [] (.ret (normT (mk 24 [x, y]) false).d) := by
          refine AFn.of (s44 ?_)
          unfold A44
          (refine a_bxv fun z1 => ?_; refine a_bx fun z2 => ?_; refine a_fld ?_; (apply a_ld1 1; exact rfl; exact rfl); refine a_eql ?_; refine a_cndbF rfl ?_; (apply a_jnX; intro J hJ); refine a_eql ?_; refine a_cndbF rfl ?_; refine a_eql ?_; exact hJ; dsimp only [aix0, aix1, aix2, aix3, aix4, aix5, aix6, aix7, aix8]; refine a_cndbF rfl ?_; refine a_eql ?_; refine a_cndbF rfl ?_; refine a_eql ?_; refine a_cndbF rfl ?_; refine a_eql ?_; refine a_cndbT rfl ?_; refine a_fld ?_; (apply a_ld1 1; exact rfl; exact rfl); refine a_idxT0 ?_; (apply a_ldAp; exact rfl); refine a_fld ?_; (apply a_ld1 1; exact rfl; exact rfl); refine a_idxT1 ?_; (apply a_ldAp; exact rfl); refine a_callS0 (c78 _ _ _) ?_; refine a_fld ?_; (apply a_ld1 1; exact rfl; exact rfl); refine a_idxT1 ?_; (apply a_ldAp; exact rfl); refine a_fld ?_; (apply a_ld1 1; exact rfl; exact rfl); refine a_idxT0 ?_; (apply a_ldAp; exact rfl); refine a_callS0 (c78 _ _ _) ?_; refine a_callS0 (c78 _ _ _) ?_; refine a_stA 0 rfl rfl rfl rfl ?_; (apply a_ldA 0; exact rfl; exact rfl))
          rw [normT_24]; rfl
        refine ⟨hu, AFn.of (s77 ?_)⟩
        unfold A77
        (refine a_bxv fun z1 => ?_; refine a_bx fun z2 => ?_; refine a_fld ?_; (apply a_ld1 1; exact rfl; exact rfl); refine a_eql ?_; refine a_cndbF rfl ?_; refine a_eql ?_; refine a_cndbF rfl ?_; refine a_eql ?_; refine a_cndbF rfl ?_; (apply a_jnX; intro J hJ); refine a_eql ?_; refine a_cndbF rfl ?_; refine a_eql ?_; exact hJ; dsimp only [aix0, aix1, aix2, aix3, aix4, aix5, aix6, aix7, aix8]; refine a_cndbF rfl ?_; refine a_eql ?_; refine a_cndbF rfl ?_; refine a_eql ?_; refine a_cndbF rfl ?_; refine a_eql ?_; refine a_cndbT rfl ?_; refine a_fld ?_; (apply a_ld1 1; exact rfl; exact rfl); refine a_idxT0 ?_; (apply a_ldAp; exact rfl); refine a_fld ?_; (apply a_ld1 1; exact rfl; exact rfl); refine a_idxT1 ?_; (apply a_ldAp; exact rfl); refine a_callS0 (c78 _ _ _) ?_; refine a_callS0 (c79 _) ?_; refine a_fld ?_; (apply a_ld1 1; exact rfl; exact rfl); refine a_idxT1 ?_; (apply a_ldAp; exact rfl); refine a_fld ?_; (apply a_ld1 1; exact rfl; exact rfl); refine a_idxT0 ?_; (apply a_ldAp; exact rfl); refine a_callS0 (c78 _ _ _) ?_; refine a_callS0 (c79 _) ?_; refine a_callS0 (c78 _ _ _) ?_; refine a_stA 0 rfl rfl rfl rfl ?_; (apply a_ldA 0; exact rfl; exact rfl))
        rw [normT_24]; rfl
      · have hu : AFn pr 44 [(mk 25 [x, y]).d] [] (.ret (normT (mk 25 [x, y]) false).d) := by
          refine AFn.of (s44 ?_)
          unfold A44
          (refine a_bxv fun z1 => ?_; refine a_bx fun z2 => ?_; refine a_fld ?_; (apply a_ld1 1; exact rfl; exact rfl); refine a_eql ?_; refine a_cndbF rfl ?_; (apply a_jnX; intro J hJ); refine a_eql ?_; refine a_cndbF rfl ?_; refine a_eql ?_; exact hJ; dsimp only [aix0, aix1, aix2, aix3, aix4, aix5, aix6, aix7, aix8]; refine a_cndbF rfl ?_; refine a_eql ?_; refine a_cndbF rfl ?_; refine a_eql ?_; refine a_cndbF rfl ?_; refine a_eql ?_; refine a_cndbF rfl ?_; refine a_eql ?_; refine a_cndbF rfl ?_; refine a_eql ?_; refine a_cndbT rfl ?_; refine a_fld ?_; (apply a_ld1 1; exact rfl; exact rfl); refine a_idxT0 ?_; (apply a_ldAp; exact rfl); refine a_callS0 (c81 _) ?_; refine a_fld ?_; (apply a_ld1 1; exact rfl; exact rfl); refine a_idxT1 ?_; (apply a_ldAp; exact rfl); refine a_callS0 (c80 _ _) ?_; refine a_stA 0 rfl rfl rfl rfl ?_; (apply a_ldA 0; exact rfl; exact rfl))
          rw [normT_25]; rfl
        refine ⟨hu, AFn.of (s77 ?_)⟩
        unfold A77
        (refine a_bxv fun z1 => ?_; refine a_bx fun z2 => ?_; refine a_fld ?_; (apply a_ld1 1; exact rfl; exact rfl); refine a_eql ?_; refine a_cndbF rfl ?_; refine a_eql ?_; refine a_cndbF rfl ?_; refine a_eql ?_; refine a_cndbF rfl ?_; (apply a_jnX; intro J hJ); refine a_eql ?_; refine a_cndbF rfl ?_; refine a_eql ?_; exact hJ; dsimp only [aix0, aix1, aix2, aix3, aix4, aix5, aix6, aix7, aix8]; refine a_cndbF rfl ?_; refine a_eql ?_; refine a_cndbF rfl ?_; refine a_eql ?_; refine a_cndbF rfl ?_; refine a_eql ?_; refine a_cndbF rfl ?_; refine a_eql ?_; refine a_cndbF rfl ?_; (apply a_ldA 1; exact rfl; exact rfl); refine a_call0 hu ?_; refine a_call0 (c79 _) ?_; refine a_stA 0 rfl rfl rfl rfl ?_; (apply a_ldA 0; exact rfl; exact rfl))
        rw [normT_25, normT_25]; rfl
      · have hu : AFn pr 44 [(mk 26 [x, y]).d] [] (.ret (normT (mk 26 [x, y]) false).d) := by
          refine AFn.of (s44 ?_)
          unfold A44
          (refine a_bxv fun z1 => ?_; refine a_bx fun z2 => ?_; refine a_fld ?_; (apply a_ld1 1; exact rfl; exact rfl); refine a_eql ?_; refine a_cndbF rfl ?_; (apply a_jnX; intro J hJ); refine a_eql ?_; refine a_cndbF rfl ?_; refine a_eql ?_; exact hJ; dsimp only [aix0, aix1, aix2, aix3, aix4, aix5, aix6, aix7, aix8]; refine a_cndbF rfl ?_; refine a_eql ?_; refine a_cndbF rfl ?_; refine a_eql ?_; refine a_cndbF rfl ?_; refine a_eql ?_; refine a_cndbF rfl ?_; refine a_eql ?_; refine a_cndbT rfl ?_; refine a_fld ?_; (apply a_ld1 1; exact rfl; exact rfl); refine a_idxT0 ?_; (apply a_ldAp; exact rfl); refine a_fld ?_; (apply a_ld1 1; exact rfl; exact rfl); refine a_idxT1 ?_; (apply a_ldAp; exact rfl); refine a_callS0 (c80 _ _) ?_; refine a_stA 0 rfl rfl rfl rfl ?_; (apply a_ldA 0; exact rfl; exact rfl))
          rw [normT_26]; rfl
        refine ⟨hu, AFn.of (s77 ?_)⟩
        unfold A77
        (refine a_bxv fun z1 => ?_; refine a_bx fun z2 => ?_; refine a_fld ?_; (apply a_ld1 1; exact rfl; exact rfl); refine a_eql ?_; refine a_cndbF rfl ?_; refine a_eql ?_; refine a_cndbF rfl ?_; refine a_eql ?_; refine a_cndbF rfl ?_; (apply a_jnX; intro J hJ); refine a_eql ?_; refine a_cndbF rfl ?_; refine a_eql ?_; exact hJ; dsimp only [aix0, aix1, aix2, aix3, aix4, aix5, aix6, aix7, aix8]; refine a_cndbF rfl ?_; refine a_eql ?_; refine a_cndbF rfl ?_; refine a_eql ?_; refine a_cndbF rfl ?_; refine a_eql ?_; refine a_cndbF rfl ?_; refine a_eql ?_; refine a_cndbF rfl ?_; (apply a_ldA 1; exact rfl; exact rfl); refine a_call0 hu ?_; refine a_call0 (c79 _) ?_; refine a_stA 0 rfl rfl rfl rfl ?_; (apply a_ldA 0; exact rfl; exact rfl))
        rw [normT_26, normT_26]; rfl
      · have hu : AFn pr 44 [(mk 27 [x, y]).d] [] (.ret (normT (mk 27 [x, y]) false).d) := by
          refine AFn.of (s44 ?_)
          unfold A44
          (refine a_bxv fun z1 => ?_; refine a_bx fun z2 => ?_; refine a_fld ?_; (apply a_ld1 1; exact rfl; exact rfl); refine a_eql ?_; refine a_cndbF rfl ?_; (apply a_jnX; intro J hJ); refine a_eql ?_; refine a_cndbF rfl ?_; refine a_eql ?_; exact hJ; dsimp only [aix0, aix1, aix2, aix3, aix4, aix5, aix6, aix7, aix8]; refine a_cndbF rfl ?_; refine a_eql ?_; refine a_cndbF rfl ?_; refine a_eql ?_; refine a_cndbF rfl ?_; refine a_eql ?_; refine a_cndbF rfl ?_; refine a_eql ?_; refine a_cndbF rfl ?_; refine a_eql ?_; refine a_cndbF rfl ?_; refine a_eql ?_; refine a_cndbF rfl ?_; refine a_eql ?_; refine a_cndbT rfl ?_; refine a_fld ?_; (apply a_ld1 1; exact rfl; exact rfl); refine a_idxT0 ?_; (apply a_ldAp; exact rfl); refine a_fld ?_; (apply a_ld1 1; exact rfl; exact rfl); refine a_idxT1 ?_; (apply a_ldAp; exact rfl); refine a_callS0 (c80 _ _) ?_; refine a_fld ?_; (apply a_ld1 1; exact rfl; exact rfl); refine a_idxT1 ?_; (apply a_ldAp; exact rfl); refine a_fld ?_; (apply a_ld1 1; exact rfl; exact rfl); refine a_idxT0 ?_; (apply a_ldAp; exact rfl); refine a_callS0 (c80 _ _) ?_; refine a_callS0 (c78 _ _ _) ?_; refine a_stA 0 rfl rfl rfl rfl ?_; (apply a_ldA 0; exact rfl; exact rfl))
          rw [normT_27]; rfl
        refine ⟨hu, AFn.of (s77 ?_)⟩
        unfold A77
        (refine a_bxv fun z1 => ?_; refine a_bx fun z2 => ?_; refine a_fld ?_; (apply a_ld1 1; exact rfl; exact rfl); refine a_eql ?_; refine a_cndbF rfl ?_; refine a_eql ?_; refine a_cndbF rfl ?_; refine a_eql ?_; refine a_cndbF rfl ?_; (apply a_jnX; intro J hJ); refine a_eql ?_; refine a_cndbF rfl ?_; refine a_eql ?_; exact hJ; dsimp only [aix0, aix1, aix2, aix3, aix4, aix5, aix6, aix7, aix8]; refine a_cndbF rfl ?_; refine a_eql ?_; refine a_cndbF rfl ?_; refine a_eql ?_; refine a_cndbF rfl ?_; refine a_eql ?_; refine a_cndbF rfl ?_; refine a_eql ?_; refine a_cndbT rfl ?_; refine a_fld ?_; (apply a_ld1 1; exact rfl; exact rfl); refine a_idxT0 ?_; (apply a_ldAp; exact rfl); refine a_fld ?_; (apply a_ld1 1; exact rfl; exact rfl); refine a_idxT1 ?_; (apply a_ldAp; exact rfl); refine a_callS0 (c80 _ _) ?_; refine a_callS0 (c79 _) ?_; refine a_fld ?_; (apply a_ld1 1; exact rfl; exact rfl); refine a_idxT1 ?_; (apply a_ldAp; exact rfl); refine a_fld ?_; (apply a_ld1 1; exact rfl; exact rfl); refine a_idxT0 ?_; (apply a_ldAp; exact rfl); refine a_callS0 (c80 _ _) ?_; refine a_callS0 (c79 _) ?_; refine a_callS0 (c78 _ _ _) ?_; refine a_stA 0 rfl rfl rfl rfl ?_; (apply a_ldA 0; exact rfl; exact rfl))
        rw [normT_27]; rfl
      · have hu : AFn pr 44 [(mk 28 [x, y]).d] [] (.ret (normT (mk 28 [x, y]) false).d) := by
          refine AFn.of (s44 ?_)
          unfold A44
          (refine a_bxv fun z1 => ?_; refine a_bx fun z2 => ?_; refine a_fld ?_; (apply a_ld1 1; exact rfl; exact rfl); refine a_eql ?_; refine a_cndbF rfl ?_; (apply a_jnX; intro J hJ); refine a_eql ?_; refine a_cndbF rfl ?_; refine a_eql ?_; exact hJ; dsimp only [aix0, aix1, aix2, aix3, aix4, aix5, aix6, aix7, aix8]; refine a_cndbF rfl ?_; refine a_eql ?_; refine a_cndbF rfl ?_; refine a_eql ?_; refine a_cndbF rfl ?_; refine a_eql ?_; refine a_cndbF rfl ?_; refine a_eql ?_; refine a_cndbF rfl ?_; refine a_eql ?_; refine a_cndbF rfl ?_; refine a_eql ?_; refine a_cndbT rfl ?_; refine a_fld ?_; (apply a_ld1 1; exact rfl; exact rfl); refine a_idxT0 ?_; (apply a_ldAp; exact rfl); refine a_callS0 (c81 _) ?_; refine a_fld ?_; (apply a_ld1 1; exact rfl; exact rfl); refine a_idxT1 ?_; (apply a_ldAp; exact rfl); refine a_callS0 (c81 _) ?_; refine a_callS0 (c80 _ _) ?_; refine a_stA 0 rfl rfl rfl rfl ?_; (apply a_ldA 0; exact rfl; exact rfl))
          rw [normT_28]; rfl
        refine ⟨hu, AFn.of (s77 ?_)⟩
        unfold A77
        (refine a_bxv fun z1 => ?_; refine a_bx fun z2 => ?_; refine a_fld ?_; (apply a_ld1 1; exact rfl; exact rfl); refine a_eql ?_; refine a_cndbF rfl ?_; refine a_eql ?_; refine a_cndbF rfl ?_; refine a_eql ?_; refine a_cndbF rfl ?_; (apply a_jnX; intro J hJ); refine a_eql ?_; refine a_cndbF rfl ?_; refine a_eql ?_; exact hJ; dsimp only [aix0, aix1, aix2, aix3, aix4, aix5, aix6, aix7, aix8]; refine a_cndbF rfl ?_; refine a_eql ?_; refine a_cndbF rfl ?_; refine a_eql ?_; refine a_cndbF rfl ?_; refine a_eql ?_; refine a_cndbF rfl ?_; refine a_eql ?_; refine a_cndbF rfl ?_; (apply a_ldA 1; exact rfl; exact rfl); refine a_call0 hu ?_; refine a_call0 (c79 _) ?_; refine a_stA 0 rfl rfl rfl rfl ?_; (apply a_ldA 0; exact rfl; exact rfl))
        rw [normT_28, normT_28]; rfl
theorem c19 (t : Tm) : AFn pr 19 [t.d] [] (.ret (.tuple [(NormF t).1.d, .i (NormF t).2])) := by
  refine AFn.of (s19 ?_)
  unfold A19
  (refine a_bxv fun z1 => ?_; refine a_bx fun z2 => ?_; (apply a_ldA 1; exact rfl; exact rfl); refine a_call0 (c34 _) ?_; (apply a_ext; exact rfl); (apply a_ext; exact rfl); refine a_neq ?_)
  refine a_cnd (fun h1 => ?_) (fun h1 => ?_)
  · (refine a_bldT0 rfl rfl ?_; refine a_stA 0 rfl rfl rfl rfl ?_; (apply a_ldA 0; exact rfl; exact rfl))
    exact ret_di (u := mk 0 []) (by unfold NormF; rw [if_pos h1])
  (refine a_neq ?_)
  refine a_cnd (fun h2 => ?_) (fun h2 => ?_)
  · (refine a_bldT0 rfl rfl ?_; refine a_stA 0 rfl rfl rfl rfl ?_; (apply a_ldA 0; exact rfl; exact rfl))
    exact ret_di (u := mk 0 []) (by unfold NormF; rw [if_neg h1, if_pos h2])
  obtain ⟨hs, hd, hr⟩ := sortF_bool (t := t) (by omega) (by omega)
  ((apply a_ldA 1; exact rfl; exact rfl))
  refine a_call0 (updown t hr hs).1 ?_
  (refine a_bx fun z3 => ?_; refine a_stA 0 rfl rfl rfl rfl ?_; (apply a_ldA 0; exact rfl; exact rfl); refine a_call0 (c34 _) ?_; (apply a_ext; exact rfl); (apply a_ext; exact rfl); refine a_neq ?_)
  refine a_cnd (fun h3 => ?_) (fun h3 => ?_)
  · (refine a_bldT0 rfl rfl ?_; refine a_stA 1 rfl rfl rfl rfl ?_; (apply a_ldA 1; exact rfl; exact rfl))
    exact ret_di (u := mk 0 []) (by unfold NormF; rw [if_neg h1, if_neg h2, if_pos h3])
  ((apply a_ldA 0; exact rfl; exact rfl); refine a_stA 1 rfl rfl rfl rfl ?_; (apply a_ldA 1; exact rfl; exact rfl))
  exact ret_di (by unfold NormF; rw [if_neg h1, if_neg h2, if_neg h3])
theorem c47 (t : Tm) : rightT t 4 = true → AFn pr 47 [t.d] [] (.ret (.b (fewT t))) := by
  induction t using Tm.ind' with
  | h t ih =>
    intro h
    refine AFn.small fun hsm => ?_
    rw [Smalls] at hsm
    have hs := (Tm.small (Tm.small_d hsm.1)).2.1
    clear hsm
    revert ih hs
    refine bool_cases (P := fun t => (∀ x ∈ t.a, rightT x 4 = true → AFn pr 47 [x.d] [] (.ret (.b (fewT x)))) → t.a.length ≤ 9223372036854775807 → AFn pr 47 [t.d] [] (.ret (.b (fewT t)))) h ?_ ?_ ?_ ?_ ?_ ?_ ?_
    · intro nm n a _ _
      refine AFn.of (s47 ?_)
      unfold A47
      (refine a_bxv fun z1 => ?_; (apply a_jnX; intro J hJ); refine a_fld ?_; (apply a_ld1 0; exact rfl; exact rfl); (apply a_jnX; intro J hJ); refine a_eql ?_; refine a_cndbF rfl ?_; refine a_eql ?_; exact hJ; dsimp only [aix0, aix1, aix2, aix3, aix4, aix5, aix6, aix7, aix8]; refine a_cndbF rfl ?_; refine a_eql ?_; refine a_cndbF rfl ?_; exact hJ; dsimp only [aix0, aix1, aix2, aix3, aix4, aix5, aix6, aix7, aix8]; refine a_fld ?_; (apply a_ld1 0; exact rfl; exact rfl); refine a_eql ?_; refine a_cndbF rfl ?_; refine a_fld ?_; (apply a_ld1 0; exact rfl; exact rfl); refine a_eql ?_; refine a_cndbF rfl ?_; refine a_fld ?_; (apply a_ld1 0; exact rfl; exact rfl); refine a_eql ?_; refine a_cndbT rfl ?_)
      rw [fewT]; rfl
    · intro op ho _ _
      refine AFn.of (s47 ?_)
      unfold A47
      rcases ho with rfl | rfl
      · (refine a_bxv fun z1 => ?_; (apply a_jnX; intro J hJ); refine a_fld ?_; (apply a_ld1 0; exact rfl; exact rfl); (apply a_jnX; intro J hJ); refine a_eql ?_; refine a_cndbF rfl ?_; refine a_eql ?_; exact hJ; dsimp only [aix0, aix1, aix2, aix3, aix4, aix5, aix6, aix7, aix8]; refine a_cndbF rfl ?_; refine a_eql ?_; refine a_cndbF rfl ?_; exact hJ; dsimp only [aix0, aix1, aix2, aix3, aix4, aix5, aix6, aix7, aix8]; refine a_fld ?_; (apply a_ld1 0; exact rfl; exact rfl); refine a_eql ?_; refine a_cndbT rfl ?_)
        unfold mk; rw [fewT]; rfl
      · (refine a_bxv fun z1 => ?_; (apply a_jnX; intro J hJ); refine a_fld ?_; (apply a_ld1 0; exact rfl; exact rfl); (apply a_jnX; intro J hJ); refine a_eql ?_; refine a_cndbF rfl ?_; refine a_eql ?_; exact hJ; dsimp only [aix0, aix1, aix2, aix3, aix4, aix5, aix6, aix7, aix8]; refine a_cndbF rfl ?_; refine a_eql ?_; refine a_cndbF rfl ?_; exact hJ; dsimp only [aix0, aix1, aix2, aix3, aix4, aix5, aix6, aix7, aix8]; refine a_fld ?_; (apply a_ld1 0; exact rfl; exact rfl); refine a_eql ?_; refine a_cndbF rfl ?_; refine a_fld ?_; (apply a_ld1 0; exact rfl; exact rfl); refine a_eql ?_; refine a_cndbT rfl ?_)
        unfold mk; rw [fewT]; rfl
    · intro x hx _ _
      refine AFn.of (s47 ?_)
      unfold A47
      have e : fewT (mk 18 [x]) = (decide (x.op = 15) || decide (x.op = 22)) := by unfold mk; rw [fewT, if_neg (by decide), if_pos rfl]; rfl
      rw [e]
      (refine a_bxv fun z1 => ?_)
      refine a_jn0 fun J0 => ?_
      (refine a_fld ?_; (apply a_ld1 0; exact rfl; exact rfl); (apply a_jnX; intro J hJ); refine a_eql ?_; refine a_cndbF rfl ?_; refine a_eql ?_; exact hJ; dsimp only [aix0, aix1, aix2, aix3, aix4, aix5, aix6, aix7, aix8]; refine a_cndbF rfl ?_; refine a_eql ?_; refine a_cndbT rfl ?_; refine a_fld ?_; (apply a_ld1 0; exact rfl; exact rfl); refine a_idxT0 ?_; refine a_fldp ?_; (apply a_ld1p; exact rfl); refine a_eql ?_)
      refine a_cnd (fun h2 => ?_) (fun h2 => ?_)
      · exact ret_b (by rw [decide_eq_true h2]; rfl)
      (refine a_fld ?_; (apply a_ld1 0; exact rfl; exact rfl); refine a_idxT0 ?_; refine a_fldp ?_; (apply a_ld1p; exact rfl); refine a_eql ?_)
      exact ret_b (by rw [decide_eq_false h2]; rfl)
    · intro op a ho hx ih hs
      refine AFn.of (s47 ?_)
      unfold A47
      have hs : a.length ≤ 9223372036854775807 := hs
      rw [fewT_many ho]
      have e1 : (mk op a).op = op := rfl
      have e2 : (mk op a).a.length = a.length := rfl
      refine a_bxv fun z1 => ?_
      refine a_jn0 fun J0 => ?_
      (refine a_fld ?_; (apply a_ld1 0; exact rfl; exact rfl))
      refine a_jn1 [.b true] [⟨z1, (mk op a).cs, .box⟩] ?_ fun J hJ => ?_
      · dsimp only [aix0, aix1, aix2, aix3, aix4, aix5, aix6, aix7, aix8]
        (refine a_cndbT rfl ?_)
        refine a_lp (σ := Nat) (fun i => [.i i]) (fun _ => [⟨z1, (mk op a).cs, .box⟩]) (fun i => i ≤ a.length ∧ (a.drop i).all fewT = a.all fewT) (fun i => a.length - i) 0 (by first | exact Gl.refl _ _ | exact Gl.drop (by repeat (first | exact List.Sublist.refl _ | exact List.Sublist.slnil | apply List.Sublist.cons_cons | apply List.Sublist.cons))) ⟨Nat.zero_le _, rfl⟩ ?_
        rintro i K ⟨hi, hd⟩ hK
        dsimp only [aix0, aix1, aix2, aix3, aix4, aix5, aix6, aix7, aix8]
        (refine a_fld ?_; (apply a_ld1 0; exact rfl; exact rfl); refine Tm.a_len ?_; refine a_lss ?_)
        refine a_cnd (fun h5 => ?_) (fun h5 => ?_)
        · have hlt : i < a.length := by omega
          rw [List.drop_eq_getElem_cons hlt, List.all_cons] at hd
          (refine a_fld ?_; (apply a_ld1 0; exact rfl; exact rfl))
          refine Tm.a_idx i hlt ?_
          ((apply a_ldAp; exact rfl))
          refine a_call0 (ih _ (List.getElem_mem hlt) (hx _ (List.getElem_mem hlt))) ?_
          (refine a_not ?_)
          refine a_cndb (fun h6 => ?_) (fun h6 => ?_)
          · have h7 : (!fewT a[i]) = true := h6
            rw [show fewT a[i] = false by simpa using h7, Bool.false_and] at hd
            exact ret_b hd
          · have h7 : (!fewT a[i]) = false := h6
            rw [show fewT a[i] = true by simpa using h7, Bool.true_and] at hd
            (refine a_add (by first | omega | assumption | decide) (by first | omega | assumption | decide) ?_)
            exact hK (i + 1) _ _ ⟨by omega, hd⟩ (by omega) (by first | exact Gl.refl _ _ | exact Gl.drop (by repeat (first | exact List.Sublist.refl _ | exact List.Sublist.slnil | apply List.Sublist.cons_cons | apply List.Sublist.cons)))
        · rw [List.drop_eq_nil_of_le (by omega)] at hd
          exact ret_b hd
      · rcases ho with rfl | rfl
        · (refine a_eql ?_; refine a_cndbT rfl ?_)
          exact hJ _ _ (by first | exact Gl.refl _ _ | exact Gl.drop (by repeat (first | exact List.Sublist.refl _ | exact List.Sublist.slnil | apply List.Sublist.cons_cons | apply List.Sublist.cons)))
        · (refine a_eql ?_; refine a_cndbF rfl ?_; refine a_eql ?_)
          exact hJ _ _ (by first | exact Gl.refl _ _ | exact Gl.drop (by repeat (first | exact List.Sublist.refl _ | exact List.Sublist.slnil | apply List.Sublist.cons_cons | apply List.Sublist.cons)))
    · intro x y hx hy _ _
      refine AFn.of (s47 ?_)
      unfold A47
      (refine a_bxv fun z1 => ?_; (apply a_jnX; intro J hJ); refine a_fld ?_; (apply a_ld1 0; exact rfl; exact rfl); (apply a_jnX; intro J hJ); refine a_eql ?_; refine a_cndbF rfl ?_; refine a_eql ?_; exact hJ; dsimp only [aix0, aix1, aix2, aix3, aix4, aix5, aix6, aix7, aix8]; refine a_cndbF rfl ?_; refine a_eql ?_; refine a_cndbF rfl ?_; exact hJ; dsimp only [aix0, aix1, aix2, aix3, aix4, aix5, aix6, aix7, aix8]; refine a_fld ?_; (apply a_ld1 0; exact rfl; exact rfl); refine a_eql ?_; refine a_cndbF rfl ?_; refine a_fld ?_; (apply a_ld1 0; exact rfl; exact rfl); refine a_eql ?_; refine a_cndbF rfl ?_; refine a_fld ?_; (apply a_ld1 0; exact rfl; exact rfl); refine a_eql ?_; refine a_cndbF rfl ?_; refine a_fld ?_; (apply a_ld1 0; exact rfl; exact rfl); refine a_eql ?_)
      unfold mk; rw [fewT]; rfl
    · intro x y _ _
      refine AFn.of (s47 ?_)
      unfold A47
      (refine a_bxv fun z1 => ?_; (apply a_jnX; intro J hJ); refine a_fld ?_; (apply a_ld1 0; exact rfl; exact rfl); (apply a_jnX; intro J hJ); refine a_eql ?_; refine a_cndbF rfl ?_; refine a_eql ?_; exact hJ; dsimp only [aix0, aix1, aix2, aix3, aix4, aix5, aix6, aix7, aix8]; refine a_cndbF rfl ?_; refine a_eql ?_; refine a_cndbF rfl ?_; exact hJ; dsimp only [aix0, aix1, aix2, aix3, aix4, aix5, aix6, aix7, aix8]; refine a_fld ?_; (apply a_ld1 0; exact rfl; exact rfl); refine a_eql ?_; refine a_cndbF rfl ?_; refine a_fld ?_; (apply a_ld1 0; exact rfl; exact rfl); refine a_eql ?_; refine a_cndbF rfl ?_; refine a_fld ?_; (apply a_ld1 0; exact rfl; exact rfl); refine a_eql ?_; refine a_cndbF rfl ?_; refine a_fld ?_; (apply a_ld1 0; exact rfl; exact rfl); refine a_eql ?_)
      rw [fewT_le]; rfl
    · intro op x y h1 h2 _ _
      refine AFn.of (s47 ?_)
      unfold A47
      have e : fewT (mk op [x, y]) = false := by
        cases hf : fewT (mk op [x, y])
        · rfl
        · have := few_op hf; simp only [mk, Tm.op] at this; omega
      rw [e]
      have e1 : (mk op [x, y]).op = op := rfl
      (refine a_bxv fun z1 => ?_; (apply a_jnX; intro J hJ); refine a_fld ?_; (apply a_ld1 0; exact rfl; exact rfl); (apply a_jnX; intro J hJ); refine a_eql ?_; refine a_cndF (by first | omega | assumption | decide) ?_; refine a_eql ?_; exact hJ; dsimp only [aix0, aix1, aix2, aix3, aix4, aix5, aix6, aix7, aix8]; refine a_cndF (by first | omega | assumption | decide) ?_; refine a_eql ?_; refine a_cndF (by first | omega | assumption | decide) ?_; exact hJ; dsimp only [aix0, aix1, aix2, aix3, aix4, aix5, aix6, aix7, aix8]; refine a_fld ?_; (apply a_ld1 0; exact rfl; exact rfl); refine a_eql ?_; refine a_cndF (by first | omega | assumption | decide) ?_; refine a_fld ?_; (apply a_ld1 0; exact rfl; exact rfl); refine a_eql ?_; refine a_cndF (by first | omega | assumption | decide) ?_; refine a_fld ?_; (apply a_ld1 0; exact rfl; exact rfl); refine a_eql ?_; refine a_cndF (by first | omega | assumption | decide) ?_; refine a_fld ?_; (apply a_ld1 0; exact rfl; exact rfl); refine a_eql ?_)
      exact ret_b (decide_eq_false (by omega))
theorem c22 (t : Tm) : AFn pr 22 [t.d] [] (.ret (.b (IsF t))) := by
  refine AFn.of (s22 ?_)
  unfold A22
  (refine a_bxv fun z1 => ?_; (apply a_ldA 0; exact rfl; exact rfl); refine a_call0 (c34 _) ?_; (apply a_ext; exact rfl); (apply a_ext; exact rfl); refine a_eql ?_)
  refine a_cnd (fun h1 => ?_) (fun h1 => ?_)
  · (refine a_eql ?_)
    refine a_cnd (fun h2 => ?_) (fun h2 => ?_)
    · obtain ⟨hs, hd, hr⟩ := sortF_bool h1 h2
      ((apply a_ldA 0; exact rfl; exact rfl); refine a_call0 (c47 _ (by first | omega | assumption | decide)) ?_)
      exact ret_b (by unfold IsF; rw [decide_eq_true h1, decide_eq_true h2]; rfl)
    · exact ret_b (by unfold IsF; rw [decide_eq_true h1, decide_eq_false h2]; rfl)
  · exact ret_b (by unfold IsF; rw [decide_eq_false h1]; rfl)
theorem NormF_dep (t : Tm) : (NormF t).1.dep ≤ 100 := by
  by_cases h : (NormF t).2 = 0
  · obtain ⟨_, _, _, e, _, k2, _⟩ := NormF_ok h
    rw [e]; exact k2
  · unfold NormF at h ⊢
    split at h
    · next h1 => rw [if_pos h1]; exact (by decide : (mk 0 []).dep ≤ 100)
    · next h1 =>
      rw [if_neg h1]
      split at h
      · next h2 => rw [if_pos h2]; exact (by decide : (mk 0 []).dep ≤ 100)
      · next h2 =>
        rw [if_neg h2]
        split at h
        · next h3 => rw [if_pos h3]; exact (by decide : (mk 0 []).dep ≤ 100)
        · exact absurd rfl h
theorem c3 (t : Tm) : AFn pr 3 [t.d] [] (.ret (.b true)) := by
  refine AFn.of (s3 ?_)
  unfold A3
  have e := sameF_refl (NormF_dep t)
  (refine a_bxv fun z1 => ?_; refine a_call0 (c17) ?_; (apply a_ldA 0; exact rfl; exact rfl); refine a_call0 (c18 _) ?_; (apply a_ext; exact rfl); (apply a_ext; exact rfl); refine a_bx fun z2 => ?_; refine a_stA 0 rfl rfl rfl rfl ?_; (apply a_ldA 1; exact rfl; exact rfl); refine a_call0 (c19 _) ?_; (apply a_ext; exact rfl); (apply a_ext; exact rfl); refine a_bx fun z3 => ?_; refine a_stA 0 rfl rfl rfl rfl ?_; refine a_cndbT rfl ?_; (apply a_ldA 1; exact rfl; exact rfl); (apply a_ldA 0; exact rfl; exact rfl); refine a_callS0 (c20 _ _) ?_; refine a_cndbT (by first | omega | assumption | decide) ?_; refine a_eql ?_; refine a_cndT (by first | omega | assumption | decide) ?_; (apply a_ldA 2; exact rfl; exact rfl); refine a_callS0 (c21 _) ?_; (apply a_ldA 2; exact rfl; exact rfl); refine a_callS0 (c22 _) ?_; refine a_eqlB ?_)
  simp
end Go.Proofs.YtlonmopppgadgaaDoor
