/- Contracts: which terms are right, and their sorts. -/
import Derived.Test.YtaigilchnadmpaaDoorC2
set_option maxRecDepth 100000
set_option linter.unusedVariables false
namespace Go.Proofs.YtaigilchnadmpaaDoor
open Go Go.V
theorem c47 {x y : Int} : AFn pr 47 [.i x, .i y] [] (.ret (.agg [.i x, .b false, .b false, .row 1 [[.i y], [.i y]], .b false])) := by
  refine AFn.of (s47 ?_)
  unfold A47
  (refine a_bx fun z1 => ?_; (apply a_bldS _; exact rfl; (try dsimp only [afill, aparts, cl, chunk, List.take, List.drop, List.nil_append, List.cons_append, List.append_nil, List.length_cons, List.length_nil, Nat.zero_add, Nat.reduceAdd, Nat.reduceMul]); try exact rfl); (apply a_bld _; exact rfl; (try dsimp only [afill, aparts, cl, chunk, List.take, List.drop, List.nil_append, List.cons_append, List.append_nil, List.length_cons, List.length_nil, Nat.zero_add, Nat.reduceAdd, Nat.reduceMul]); try exact rfl); refine a_stA 0 rfl rfl rfl rfl ?_; (apply a_ldA 0; exact rfl; exact rfl))
  rfl
theorem c34 : AFn pr 34 [] [] (.ret (.agg tabD)) := by
  refine AFn.of (s34 ?_)
  unfold A34
  (refine a_bx fun z1 => ?_; (apply a_bld _; exact rfl; (try dsimp only [afill, aparts, cl, chunk, List.take, List.drop, List.nil_append, List.cons_append, List.append_nil, List.length_cons, List.length_nil, Nat.zero_add, Nat.reduceAdd, Nat.reduceMul]); try exact rfl); (apply a_bld _; exact rfl; (try dsimp only [afill, aparts, cl, chunk, List.take, List.drop, List.nil_append, List.cons_append, List.append_nil, List.length_cons, List.length_nil, Nat.zero_add, Nat.reduceAdd, Nat.reduceMul]); try exact rfl); (apply a_bldS _; exact rfl; (try dsimp only [afill, aparts, cl, chunk, List.take, List.drop, List.nil_append, List.cons_append, List.append_nil, List.length_cons, List.length_nil, Nat.zero_add, Nat.reduceAdd, Nat.reduceMul]); try exact rfl); (apply a_bld _; exact rfl; (try dsimp only [afill, aparts, cl, chunk, List.take, List.drop, List.nil_append, List.cons_append, List.append_nil, List.length_cons, List.length_nil, Nat.zero_add, Nat.reduceAdd, Nat.reduceMul]); try exact rfl); refine a_call0 (c47) ?_; refine a_call0 (c47) ?_; (apply a_bldS _; exact rfl; (try dsimp only [afill, aparts, cl, chunk, List.take, List.drop, List.nil_append, List.cons_append, List.append_nil, List.length_cons, List.length_nil, Nat.zero_add, Nat.reduceAdd, Nat.reduceMul]); try exact rfl); (apply a_bld _; exact rfl; (try dsimp only [afill, aparts, cl, chunk, List.take, List.drop, List.nil_append, List.cons_append, List.append_nil, List.length_cons, List.length_nil, Nat.zero_add, Nat.reduceAdd, Nat.reduceMul]); try exact rfl); (apply a_bld _; exact rfl; (try dsimp only [afill, aparts, cl, chunk, List.take, List.drop, List.nil_append, List.cons_append, List.append_nil, List.length_cons, List.length_nil, Nat.zero_add, Nat.reduceAdd, Nat.reduceMul]); try exact rfl); (apply a_bld _; exact rfl; (try dsimp only [afill, aparts, cl, chunk, List.take, List.drop, List.nil_append, List.cons_append, List.append_nil, List.length_cons, List.length_nil, Nat.zero_add, Nat.reduceAdd, Nat.reduceMul]); try exact rfl); (apply a_bld _; exact rfl; (try dsimp only [afill, aparts, cl, chunk, List.take, List.drop, List.nil_append, List.cons_append, List.append_nil, List.length_cons, List.length_nil, Nat.zero_add, Nat.reduceAdd, Nat.reduceMul]); try exact rfl); (apply a_bldS _; exact rfl; (try dsimp only [afill, aparts, cl, chunk, List.take, List.drop, List.nil_append, List.cons_append, List.append_nil, List.length_cons, List.length_nil, Nat.zero_add, Nat.reduceAdd, Nat.reduceMul]); try exact rfl); (apply a_bld _; exact rfl; (try dsimp only [afill, aparts, cl, chunk, List.take, List.drop, List.nil_append, List.cons_append, List.append_nil, List.length_cons, List.length_nil, Nat.zero_add, Nat.reduceAdd, Nat.reduceMul]); try exact rfl); refine a_call0 (c47) ?_; refine a_call0 (c47) ?_; refine a_call0 (c47) ?_; (apply a_bld _; exact rfl; (try dsimp only [afill, aparts, cl, chunk, List.take, List.drop, List.nil_append, List.cons_append, List.append_nil, List.length_cons, List.length_nil, Nat.zero_add, Nat.reduceAdd, Nat.reduceMul]); try exact rfl); (apply a_bld _; exact rfl; (try dsimp only [afill, aparts, cl, chunk, List.take, List.drop, List.nil_append, List.cons_append, List.append_nil, List.length_cons, List.length_nil, Nat.zero_add, Nat.reduceAdd, Nat.reduceMul]); try exact rfl); (apply a_bld _; exact rfl; (try dsimp only [afill, aparts, cl, chunk, List.take, List.drop, List.nil_append, List.cons_append, List.append_nil, List.length_cons, List.length_nil, Nat.zero_add, Nat.reduceAdd, Nat.reduceMul]); try exact rfl); (apply a_bld _; exact rfl; (try dsimp only [afill, aparts, cl, chunk, List.take, List.drop, List.nil_append, List.cons_append, List.append_nil, List.length_cons, List.length_nil, Nat.zero_add, Nat.reduceAdd, Nat.reduceMul]); try exact rfl); (apply a_bldS _; exact rfl; (try dsimp only [afill, aparts, cl, chunk, List.take, List.drop, List.nil_append, List.cons_append, List.append_nil, List.length_cons, List.length_nil, Nat.zero_add, Nat.reduceAdd, Nat.reduceMul]); try exact rfl); (apply a_bld _; exact rfl; (try dsimp only [afill, aparts, cl, chunk, List.take, List.drop, List.nil_append, List.cons_append, List.append_nil, List.length_cons, List.length_nil, Nat.zero_add, Nat.reduceAdd, Nat.reduceMul]); try exact rfl); (apply a_bldS _; exact rfl; (try dsimp only [afill, aparts, cl, chunk, List.take, List.drop, List.nil_append, List.cons_append, List.append_nil, List.length_cons, List.length_nil, Nat.zero_add, Nat.reduceAdd, Nat.reduceMul]); try exact rfl); (apply a_bld _; exact rfl; (try dsimp only [afill, aparts, cl, chunk, List.take, List.drop, List.nil_append, List.cons_append, List.append_nil, List.length_cons, List.length_nil, Nat.zero_add, Nat.reduceAdd, Nat.reduceMul]); try exact rfl); (apply a_bldS _; exact rfl; (try dsimp only [afill, aparts, cl, chunk, List.take, List.drop, List.nil_append, List.cons_append, List.append_nil, List.length_cons, List.length_nil, Nat.zero_add, Nat.reduceAdd, Nat.reduceMul]); try exact rfl); (apply a_bld _; exact rfl; (try dsimp only [afill, aparts, cl, chunk, List.take, List.drop, List.nil_append, List.cons_append, List.append_nil, List.length_cons, List.length_nil, Nat.zero_add, Nat.reduceAdd, Nat.reduceMul]); try exact rfl); refine a_call0 (c47) ?_; refine a_call0 (c47) ?_; refine a_call0 (c47) ?_; refine a_call0 (c47) ?_; (apply a_bldS _; exact rfl; (try dsimp only [afill, aparts, cl, chunk, List.take, List.drop, List.nil_append, List.cons_append, List.append_nil, List.length_cons, List.length_nil, Nat.zero_add, Nat.reduceAdd, Nat.reduceMul]); try exact rfl); (apply a_bld _; exact rfl; (try dsimp only [afill, aparts, cl, chunk, List.take, List.drop, List.nil_append, List.cons_append, List.append_nil, List.length_cons, List.length_nil, Nat.zero_add, Nat.reduceAdd, Nat.reduceMul]); try exact rfl); refine a_call0 (c47) ?_; refine a_call0 (c47) ?_; refine a_call0 (c47) ?_)
  refine a_bld tabD rfl (by kernel_rfl) ?_
  refine a_stA 0 rfl (by kernel_rfl) (by kernel_rfl) (by kernel_rfl) ?_
  refine a_ldA 0 rfl (by kernel_rfl) ?_
  rfl
theorem right_bad {t : Tm} {m : Int} (h : badHead (shpAt t.op) t.nm t.n t.a.length m = true) : rightT t m = false := by
  rw [rightT_eq, h]; simp
theorem right_good {t : Tm} {m : Int} (h1 : 1 ≤ t.op) (h2 : t.op ≤ 28) (h : badHead (shpAt t.op) t.nm t.n t.a.length m = false) : rightT t m = rightL (shpAt t.op) t.a 0 := by
  rw [rightT_eq, h, decide_eq_true h1, decide_eq_true h2]; rfl
theorem c35 (t : Tm) : ∀ {B : Nat} {m : Int}, AFn pr 35 [t.d, .p B 0, .i m] [⟨B, tabD, .box⟩] (.ret (.b (rightT t m))) := by
  induction t using Tm.ind' with
  | h t ih =>
    intro B m
    refine AFn.small fun hsm => AFn.ofL (s35 ?_)
    rw [Smalls] at hsm
    have hs := Tm.small (Tm.small_d hsm.1)
    unfold A35
    refine a_bxv fun z1 => ?_
    refine a_jn (σ := Unit) (fun _ => []) (fun _ => [⟨z1, t.cs, .box⟩, ⟨B, tabD, .box⟩]) (fun _ => 1 ≤ t.op ∧ t.op ≤ 28) ?_ fun J hJ => ?_
    · rintro _ ⟨ho1, ho2⟩
      (refine a_fld ?_; (apply a_ld1 0; exact rfl; exact rfl); refine a_nil ?_)
      refine a_idxP (by omega) (by omega) ?_
      refine a_ldN 1 (shpAt t.op).cs rfl (tab_at ho1 ho2) rfl ?_
      refine a_bx fun z2 => ?_
      refine a_stA 0 rfl rfl rfl (Shp.cs_one _) ?_
      generalize hS : shpAt t.op = S
      refine a_jn (σ := Unit) (fun _ => []) (fun _ => [⟨z2, S.cs, .box⟩, ⟨z1, t.cs, .box⟩, ⟨B, tabD, .box⟩]) (fun _ => badHead S t.nm t.n t.a.length m = false) ?_ fun J hJ => ?_
      · rintro _ hbad
        have hlen : S.many = false → t.a.length = S.a.length := by
          intro hm
          unfold badHead at hbad
          rw [hm] at hbad
          simp at hbad
          exact_mod_cast hbad.2
        have hmany : S.many = true → S.a.length = 1 := by rw [← hS]; exact shp_many t.op
        rw [← hS] at hbad
        have hgood := right_good ho1 ho2 hbad
        rw [hS] at hgood
        (refine a_fld ?_; (apply a_ld1 1; exact rfl; exact rfl); refine Tm.a_len ?_)
        refine a_lp (σ := Nat) (fun i => [.i i]) (fun _ => [⟨z2, S.cs, .box⟩, ⟨z1, t.cs, .box⟩, ⟨B, tabD, .box⟩]) (fun i => i ≤ t.a.length ∧ rightL S (t.a.drop i) i = rightL S t.a 0) (fun i => t.a.length - i) 0 (by first | exact Gl.refl _ _ | exact Gl.drop (by repeat (first | exact List.Sublist.refl _ | exact List.Sublist.slnil | apply List.Sublist.cons_cons | apply List.Sublist.cons))) ⟨Nat.zero_le _, rfl⟩ ?_
        rintro i K ⟨hi, hd⟩ hK
        dsimp only [aix0, aix1, aix2, aix3, aix4, aix5, aix6, aix7, aix8]
        (refine a_lss ?_)
        refine a_cnd (fun h => ?_) (fun h => ?_)
        · rw [List.drop_eq_getElem_cons (by omega), rightL] at hd
          refine Tm.a_idx i (by omega) ?_
          ((apply a_ldAp; exact rfl); refine a_bx fun z3 => ?_; refine a_stA 0 rfl rfl rfl rfl ?_)
          have hk : (bif S.many then 0 else i) < S.a.length := by
            cases hm : S.many
            · have := hlen hm; simp only [cond_false]; omega
            · have := hmany hm; simp only [cond_true]; omega
          refine a_jn1 [.i ((bif S.many then 0 else i : Nat))] [⟨z3, t.a[i].cs, .box⟩, ⟨z2, S.cs, .box⟩, ⟨z1, t.cs, .box⟩, ⟨B, tabD, .box⟩] ?_ fun J hJ => ?_
          · dsimp only [aix0, aix1, aix2, aix3, aix4, aix5, aix6, aix7, aix8]
            ((apply a_ldA 0; exact rfl; exact rfl); refine a_fld ?_; (apply a_ld1 1; exact rfl; exact rfl))
            refine a_idxA _ hk ?_
            ((apply a_ld1p; exact rfl))
            refine a_callSF1 3 rfl (ih _ (List.getElem_mem _)) ?_
            (refine a_not ?_)
            rw [List.getD_eq_getElem?_getD, List.getElem?_eq_getElem hk, Option.getD_some] at hd
            refine a_cndb (fun h1 => ?_) (fun h1 => ?_)
            · have h1 : rightT t.a[i] S.a[bif S.many then 0 else i] = false := by simpa using h1
              rw [h1] at hd
              exact ⟨ret_b (by rw [hgood, ← hd]; rfl), (by repeat (first | exact List.Sublist.refl _ | exact List.Sublist.slnil | apply List.Sublist.cons_cons | apply List.Sublist.cons))⟩
            · have h1 : rightT t.a[i] S.a[bif S.many then 0 else i] = true := by simpa using h1
              rw [h1] at hd
              (refine a_add (by first | omega | assumption | decide) (by first | omega | assumption | decide) ?_)
              exact hK (i + 1) _ _ ⟨by omega, by rw [← hd]; rfl⟩ (by omega) (by first | exact Gl.refl _ _ | exact Gl.drop (by repeat (first | exact List.Sublist.refl _ | exact List.Sublist.slnil | apply List.Sublist.cons_cons | apply List.Sublist.cons)))
          · (refine a_fld ?_; (apply a_ld1 1; exact rfl; exact rfl))
            refine a_cndb (fun h1 => ?_) (fun h1 => ?_)
            · rw [h1] at hJ; exact hJ _ _ (by first | exact Gl.refl _ _ | exact Gl.drop (by repeat (first | exact List.Sublist.refl _ | exact List.Sublist.slnil | apply List.Sublist.cons_cons | apply List.Sublist.cons)))
            · rw [h1] at hJ; exact hJ _ _ (by first | exact Gl.refl _ _ | exact Gl.drop (by repeat (first | exact List.Sublist.refl _ | exact List.Sublist.slnil | apply List.Sublist.cons_cons | apply List.Sublist.cons)))
        · rw [List.drop_eq_nil_of_le (by omega), rightL] at hd
          exact ⟨ret_b (by rw [hgood, ← hd]), (by repeat (first | exact List.Sublist.refl _ | exact List.Sublist.slnil | apply List.Sublist.cons_cons | apply List.Sublist.cons))⟩
      · have hbad : badHead S t.nm t.n t.a.length m = true → AE.ret (.b false) = .ret (.b (rightT t m)) := fun h => ret_b (by rw [right_bad (by rw [hS]; exact h)])
        unfold badHead at hbad hJ
        (refine a_neq ?_)
        refine a_jn (σ := Bool) (fun b => [.b b]) (fun _ => [⟨z2, S.cs, .box⟩, ⟨z1, t.cs, .box⟩, ⟨B, tabD, .box⟩]) (fun b => (decide (m ≠ 0) && decide (S.sort ≠ m)) = b) ?_ fun J1 hJ1 => ?_
        · rintro _ rfl
          dsimp only [aix0, aix1, aix2, aix3, aix4, aix5, aix6, aix7, aix8]
          refine a_cndb (fun h1 => ?_) (fun h1 => ?_)
          · exact ⟨hbad (by rw [h1]; rfl), (by repeat (first | exact List.Sublist.refl _ | exact List.Sublist.slnil | apply List.Sublist.cons_cons | apply List.Sublist.cons))⟩
          rw [h1] at hbad hJ
          (refine a_fld ?_; (apply a_ld1 0; exact rfl; exact rfl))
          refine a_jn (σ := Bool) (fun b => [.b b]) (fun _ => [⟨z2, S.cs, .box⟩, ⟨z1, t.cs, .box⟩, ⟨B, tabD, .box⟩]) (fun b => (S.name && !nameF t.nm.data.toList) = b) ?_ fun J2 hJ2 => ?_
          · rintro _ rfl
            dsimp only [aix0, aix1, aix2, aix3, aix4, aix5, aix6, aix7, aix8]
            refine a_cndb (fun h2 => ?_) (fun h2 => ?_)
            · exact ⟨hbad (by rw [h2]; rfl), (by repeat (first | exact List.Sublist.refl _ | exact List.Sublist.slnil | apply List.Sublist.cons_cons | apply List.Sublist.cons))⟩
            rw [h2] at hbad hJ
            (refine a_fld ?_; (apply a_ld1 0; exact rfl; exact rfl); refine a_not ?_)
            refine a_jn (σ := Bool) (fun b => [.b b]) (fun _ => [⟨z2, S.cs, .box⟩, ⟨z1, t.cs, .box⟩, ⟨B, tabD, .box⟩]) (fun b => (!S.name && decide (t.nm ≠ ⟨#[]⟩)) = b) ?_ fun J3 hJ3 => ?_
            · rintro _ rfl
              dsimp only [aix0, aix1, aix2, aix3, aix4, aix5, aix6, aix7, aix8]
              refine a_cndb (fun h3 => ?_) (fun h3 => ?_)
              · exact ⟨hbad (by rw [h3]; rfl), (by repeat (first | exact List.Sublist.refl _ | exact List.Sublist.slnil | apply List.Sublist.cons_cons | apply List.Sublist.cons))⟩
              rw [h3] at hbad hJ
              (refine a_fld ?_; (apply a_ld1 0; exact rfl; exact rfl); refine a_not ?_)
              refine a_jn (σ := Bool) (fun b => [.b b]) (fun _ => [⟨z2, S.cs, .box⟩, ⟨z1, t.cs, .box⟩, ⟨B, tabD, .box⟩]) (fun b => (!S.number && decide (t.n ≠ 0)) = b) ?_ fun J4 hJ4 => ?_
              · rintro _ rfl
                dsimp only [aix0, aix1, aix2, aix3, aix4, aix5, aix6, aix7, aix8]
                refine a_cndb (fun h4 => ?_) (fun h4 => ?_)
                · exact ⟨hbad (by rw [h4]; rfl), (by repeat (first | exact List.Sublist.refl _ | exact List.Sublist.slnil | apply List.Sublist.cons_cons | apply List.Sublist.cons))⟩
                rw [h4] at hbad hJ
                (refine a_fld ?_; (apply a_ld1 0; exact rfl; exact rfl); refine a_not ?_)
                refine a_jn (σ := Bool) (fun b => [.b b]) (fun _ => [⟨z2, S.cs, .box⟩, ⟨z1, t.cs, .box⟩, ⟨B, tabD, .box⟩]) (fun b => (!S.many && decide ((t.a.length : Int) ≠ S.a.length)) = b) ?_ fun J5 hJ5 => ?_
                · rintro _ rfl
                  dsimp only [aix0, aix1, aix2, aix3, aix4, aix5, aix6, aix7, aix8]
                  refine a_cndb (fun h5 => ?_) (fun h5 => ?_)
                  · exact ⟨hbad (by rw [h5]; rfl), (by repeat (first | exact List.Sublist.refl _ | exact List.Sublist.slnil | apply List.Sublist.cons_cons | apply List.Sublist.cons))⟩
                  rw [h5] at hJ
                  exact hJ () _ _ rfl (by first | exact Gl.refl _ _ | exact Gl.drop (by repeat (first | exact List.Sublist.refl _ | exact List.Sublist.slnil | apply List.Sublist.cons_cons | apply List.Sublist.cons)))
                · refine a_cndb (fun h => ?_) (fun h => ?_)
                  · rw [h] at hJ5
                    (refine a_fld ?_; (apply a_ld1 1; exact rfl; exact rfl); refine Tm.a_len ?_; refine a_fld ?_; (apply a_ld1 0; exact rfl; exact rfl))
                    refine a_lenA ?_
                    (refine a_neq ?_)
                    exact hJ5 _ _ _ rfl (by first | exact Gl.refl _ _ | exact Gl.drop (by repeat (first | exact List.Sublist.refl _ | exact List.Sublist.slnil | apply List.Sublist.cons_cons | apply List.Sublist.cons)))
                  · rw [h] at hJ5
                    exact hJ5 _ _ _ rfl (by first | exact Gl.refl _ _ | exact Gl.drop (by repeat (first | exact List.Sublist.refl _ | exact List.Sublist.slnil | apply List.Sublist.cons_cons | apply List.Sublist.cons)))
              · refine a_cndb (fun h => ?_) (fun h => ?_)
                · rw [h] at hJ4
                  (refine a_fld ?_; (apply a_ld1 1; exact rfl; exact rfl); refine a_neq ?_)
                  exact hJ4 _ _ _ rfl (by first | exact Gl.refl _ _ | exact Gl.drop (by repeat (first | exact List.Sublist.refl _ | exact List.Sublist.slnil | apply List.Sublist.cons_cons | apply List.Sublist.cons)))
                · rw [h] at hJ4
                  exact hJ4 _ _ _ rfl (by first | exact Gl.refl _ _ | exact Gl.drop (by repeat (first | exact List.Sublist.refl _ | exact List.Sublist.slnil | apply List.Sublist.cons_cons | apply List.Sublist.cons)))
            · refine a_cndb (fun h => ?_) (fun h => ?_)
              · rw [h] at hJ3
                (refine a_fld ?_; (apply a_ld1 1; exact rfl; exact rfl); refine a_neqS ?_)
                exact hJ3 _ _ _ rfl (by first | exact Gl.refl _ _ | exact Gl.drop (by repeat (first | exact List.Sublist.refl _ | exact List.Sublist.slnil | apply List.Sublist.cons_cons | apply List.Sublist.cons)))
              · rw [h] at hJ3
                exact hJ3 _ _ _ rfl (by first | exact Gl.refl _ _ | exact Gl.drop (by repeat (first | exact List.Sublist.refl _ | exact List.Sublist.slnil | apply List.Sublist.cons_cons | apply List.Sublist.cons)))
          · refine a_cndb (fun h => ?_) (fun h => ?_)
            · rw [h] at hJ2
              (refine a_fld ?_; (apply a_ld1 1; exact rfl; exact rfl); refine a_call0 (c15) ?_; refine a_not ?_)
              exact hJ2 _ _ _ rfl (by first | exact Gl.refl _ _ | exact Gl.drop (by repeat (first | exact List.Sublist.refl _ | exact List.Sublist.slnil | apply List.Sublist.cons_cons | apply List.Sublist.cons)))
            · rw [h] at hJ2
              exact hJ2 _ _ _ rfl (by first | exact Gl.refl _ _ | exact Gl.drop (by repeat (first | exact List.Sublist.refl _ | exact List.Sublist.slnil | apply List.Sublist.cons_cons | apply List.Sublist.cons)))
        · refine a_cnd (fun h => ?_) (fun h => ?_)
          · rw [decide_eq_true h] at hJ1
            (refine a_fld ?_; (apply a_ld1 0; exact rfl; exact rfl); refine a_neq ?_)
            exact hJ1 _ _ _ rfl (by first | exact Gl.refl _ _ | exact Gl.drop (by repeat (first | exact List.Sublist.refl _ | exact List.Sublist.slnil | apply List.Sublist.cons_cons | apply List.Sublist.cons)))
          · rw [decide_eq_false h] at hJ1
            exact hJ1 _ _ _ rfl (by first | exact Gl.refl _ _ | exact Gl.drop (by repeat (first | exact List.Sublist.refl _ | exact List.Sublist.slnil | apply List.Sublist.cons_cons | apply List.Sublist.cons)))
    · (refine a_fld ?_; (apply a_ld1 0; exact rfl; exact rfl); refine a_lss ?_)
      refine a_cnd (fun h => ?_) (fun h => ?_)
      · exact ⟨ret_b (by rw [rightT_eq, decide_eq_false (show ¬ 1 ≤ t.op by omega)]; rfl), (by repeat (first | exact List.Sublist.refl _ | exact List.Sublist.slnil | apply List.Sublist.cons_cons | apply List.Sublist.cons))⟩
      (refine a_fld ?_; (apply a_ld1 0; exact rfl; exact rfl); refine a_gtr ?_)
      refine a_cnd (fun h2 => ?_) (fun h2 => ?_)
      · exact ⟨ret_b (by rw [rightT_eq, decide_eq_false (show ¬ t.op ≤ 28 by omega), Bool.and_false]; rfl), (by repeat (first | exact List.Sublist.refl _ | exact List.Sublist.slnil | apply List.Sublist.cons_cons | apply List.Sublist.cons))⟩
      exact hJ () _ _ ⟨by omega, by omega⟩ (by first | exact Gl.refl _ _ | exact Gl.drop (by repeat (first | exact List.Sublist.refl _ | exact List.Sublist.slnil | apply List.Sublist.cons_cons | apply List.Sublist.cons)))
theorem ret_ii {a b c d : Int} (h : (a, b) = (c, d)) : AE.ret (.tuple [.i a, .i b]) = .ret (.tuple [.i c, .i d]) := by injection h with h1 h2; rw [h1, h2]
theorem c14 (t : Tm) : AFn pr 14 [t.d] [] (.ret (.tuple [.i (sortF t).1, .i (sortF t).2])) := by
  refine AFn.of (s14 ?_)
  unfold A14
  (refine a_bxv fun z1 => ?_; (apply a_bld _; exact rfl; (try dsimp only [afill, aparts, cl, chunk, List.take, List.drop, List.nil_append, List.cons_append, List.append_nil, List.length_cons, List.length_nil, Nat.zero_add, Nat.reduceAdd, Nat.reduceMul]); try exact rfl); refine a_bxv fun z2 => ?_)
  refine a_jn (σ := Unit) (fun _ => []) (fun _ => [⟨z2, [.i (ofT t 1 0 0).1, .i (ofT t 1 0 0).2], .box⟩, ⟨z1, t.cs, .box⟩]) (fun _ => ¬ ((ofT t 1 0 0).1 > 2000 ∨ (ofT t 1 0 0).2 > 100)) ?_ fun J hJ => ?_
  · rintro _ hof
    (refine a_call0 (c34) ?_; refine a_bx fun z3 => ?_)
    refine a_stA 0 rfl (by kernel_rfl) (by kernel_rfl) (by kernel_rfl) ?_
    ((apply a_ldA 2; exact rfl; exact rfl); refine a_callF1 0 rfl (c35 _) ?_; refine a_not ?_)
    refine a_cndb (fun h1 => ?_) (fun h1 => ?_)
    · have h1 : rightT t 0 = false := by simpa using h1
      refine ret_ii ?_
      unfold sortF
      rw [if_neg hof, h1]; rfl
    · have h1 : rightT t 0 = true := by simpa using h1
      have h2 := h1
      rw [rightT_eq] at h2
      simp only [Bool.and_eq_true, decide_eq_true_eq] at h2
      (refine a_fld ?_; (apply a_ld1 2; exact rfl; exact rfl))
      refine a_idxP (by omega) (by omega) ?_
      refine a_fld ?_
      refine a_ld1 0 rfl (tab_sort h2.1.1.1 h2.1.1.2) ?_
      refine ret_ii ?_
      unfold sortF
      rw [if_neg hof, h1]; rfl
  · ((apply a_ldA 1; exact rfl; exact rfl); refine a_callU1 0 rfl (c33 _ (by first | omega | assumption | decide) (by first | omega | assumption | decide) (by first | omega | assumption | decide) (by first | omega | assumption | decide)) ?_; refine a_nil ?_; refine a_fld ?_; (apply a_ld1 0; exact rfl; exact rfl); refine a_gtr ?_)
    refine a_cnd (fun h => ?_) (fun h => ?_)
    · refine ret_ii ?_
      unfold sortF
      rw [if_pos (.inl h)]
    (refine a_nil ?_; refine a_fld ?_; (apply a_ld1 0; exact rfl; exact rfl); refine a_gtr ?_)
    refine a_cnd (fun h2 => ?_) (fun h2 => ?_)
    · refine ret_ii ?_
      unfold sortF
      rw [if_pos (.inr h2)]
    exact hJ () _ _ (fun h3 => h3.elim h h2) (by first | exact Gl.refl _ _ | exact Gl.drop (by repeat (first | exact List.Sublist.refl _ | exact List.Sublist.slnil | apply List.Sublist.cons_cons | apply List.Sublist.cons)))
end Go.Proofs.YtaigilchnadmpaaDoor
