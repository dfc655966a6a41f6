/- The document's answer for layer 13: an int as a row, what an atom says. -/
import Derived.Test.YtokpeggkofjclaaGreatDoorC52
set_option maxRecDepth 100000
set_option linter.unusedVariables false
namespace Go.V
open Go
theorem rwJ_ok {p : Pl} {t : Tm} (h : rightT t 1 = true) (q : (rwJ (lineE p t)).2 = 0) : ∃ u, lineE p t = .ok u := by
  cases hu : lineE p t with
  | ok u => exact ⟨u, rfl⟩
  | error e =>
    rw [hu] at q
    rcases line_code t h e hu with h | h <;> (subst h; cases q)
theorem rwJ_err {p : Pl} {t : Tm} (q : (rwJ (lineE p t)).2 ≠ 0) : lineE p t = .error (rwJ (lineE p t)).2 := by
  cases hu : lineE p t with
  | ok u => rw [hu] at q; exact absurd rfl q
  | error e => rfl
theorem rowF0 (p : Pl) (k : Int) : rowF p 0 k (fun _ => false) = ⟨List.replicate p.unk 0, k⟩ := by
  unfold rowF
  congr 1
  apply List.ext_getElem
  · simp
  · intro i h1 h2; simp
end Go.V
namespace Go.Proofs.YtokpeggkofjclaaGreatDoor
open Go Go.V
theorem c43 {p : Pl} (hp : p.Ok) (h6 : p.circ ≤ 6) (t : Tm) : rightT t 1 = true → AFn pr 43 [p.d, t.d] [] (.ret (.tuple [(rwJ (lineE p t)).1.d, .i (rwJ (lineE p t)).2])) := by
  induction t using Tm.ind' with
  | h t ih =>
    intro h
    have ho := right_int h
    have hunk := unk_le hp
    have hreg := p.reg_pos
    have hru := reg_unk p
    have hil := hp.ints
    have hR := c20 h6
    have hU := c22 h6 hp.ints
    refine AFn.ofGe (s43 ?_)
    unfold A43
    refine a_bxv fun z1 => ?_
    refine a_bxv fun z2 => ?_
    refine a_bx fun z3 => ?_
    cases t with | mk op nm n a =>
    simp only [Tm.op] at ho
    ((apply a_ldA 2; exact rfl; exact rfl); refine a_call0 hU ?_)
    refine a_mkS p.unk p.unk rfl rfl (Nat.le_refl _) (by omega) (by omega) fun z4 => ?_
    refine V.a_bld [.sl z4 0 p.unk p.unk, .i 0] rfl rfl ?_
    refine a_bx fun z5 => ?_
    refine a_stA 0 rfl rfl rfl rfl ?_
    rw [zeros_flat]
    rcases ho with e | e | e | e | e | e
    · subst e
      have hE : lineE p (.mk 1 nm n a) = .ok ⟨List.replicate p.unk 0, n⟩ := by rw [lineE, if_pos rfl, rowF0]
      rw [hE]
      (refine a_fld ?_; (apply a_ld1 3; exact rfl; exact rfl); refine a_eql ?_; refine a_cndbT rfl ?_; refine a_fld ?_; (apply a_ld1 3; exact rfl; exact rfl); refine a_fld ?_; (apply a_st 0 _; exact rfl; exact rfl; exact rfl; exact rfl; (try dsimp only [afill, aparts, cl, chunk, List.take, List.drop, List.nil_append, List.cons_append, List.append_nil, List.length_cons, List.length_nil, Nat.zero_add, Nat.reduceAdd, Nat.reduceMul]); try exact rfl); (apply a_ldA 0; exact rfl; exact rfl); refine a_stA 2 rfl rfl rfl rfl ?_; (apply a_ldA 2; exact rfl; exact rfl))
      refine ge_fz (f := n1) (l := List.replicate p.unk 0) (c := p.unk) n1_len 1 rfl ?_ (List.nil_sublist _)
      rw [List.length_replicate]
      exact .tuple (.cons (.agg (.cons .hit (.cons (.refl _) .nil))) (.cons (.refl _) .nil))
    · subst e
      have hE : lineE p (.mk 2 nm n a) = (plcE p.ints nm).map fun i => ⟨(List.replicate p.unk 0).set (p.reg + i) 1, 0⟩ := by rw [lineE, if_neg (by decide), if_pos rfl]
      have hF := c92 p.ints nm hp.ints
      have hlt := (atS_rng nm p.ints).2
      rw [hE, plcE_eq]
      (refine a_fld ?_; (apply a_ld1 3; exact rfl; exact rfl); refine a_eql ?_; refine a_cndbF rfl ?_; refine a_eql ?_; refine a_cndbT rfl ?_; refine a_fld ?_; (apply a_ld1 4; exact rfl; exact rfl); refine a_fld ?_; (apply a_ld1 3; exact rfl; exact rfl); refine a_call0 hF ?_; refine a_lss ?_)
      refine a_cnd (fun q => ?_) (fun q => ?_)
      · rw [if_pos q]
        (refine V.a_bld [.nil, .i 0] rfl rfl ?_; refine a_stA 2 rfl rfl rfl rfl ?_; (apply a_ldA 2; exact rfl; exact rfl))
        exact ge_row0
      · have hl := plc_cast q
        rw [if_neg q, hl]
        rw [hl] at hlt
        have hiu : p.reg + plcN p.ints nm < p.unk := by unfold Pl.unk; omega
        (refine a_fld ?_; (apply a_ld1 0; exact rfl; exact rfl); (apply a_ldA 4; exact rfl; exact rfl); refine a_callS0 hR ?_; refine a_add (by first | omega | assumption | decide) (by first | omega | assumption | decide) ?_)
        refine a_idxO (j := ((p.reg + plcN p.ints nm : Nat) : Int)) (by omega) (by omega) ?_
        rw [Int.toNat_natCast]
        refine a_stN 1 (p.reg + plcN p.ints nm) rfl (by rw [List.length_replicate]; omega) ?_
        ((apply a_ldA 0; exact rfl; exact rfl); refine a_stA 2 rfl rfl rfl rfl ?_; (apply a_ldA 2; exact rfl; exact rfl))
        refine ge_fz (f := n1) (l := (List.replicate p.unk 0).set (p.reg + plcN p.ints nm) 1) (c := p.unk) n1_len 1 rfl ?_ (List.nil_sublist _)
        rw [List.length_set, List.length_replicate]
        exact .tuple (.cons (.agg (.cons .hit (.cons (.refl _) .nil))) (.cons (.refl _) .nil))
    · subst e
      obtain ⟨x, rfl, hx⟩ := right1 h (s1 := 2) rfl rfl
      have hE : lineE p (.mk 3 nm n [x]) = if badS p x then .error 4 else .ok (rowF p 1 0 (regT p x)) := by rw [lineE, if_neg (by decide), if_neg (by decide), if_pos rfl]; rfl
      rw [hE]
      (refine a_fld ?_; (apply a_ld1 3; exact rfl; exact rfl); refine a_eql ?_; refine a_cndbF rfl ?_; refine a_eql ?_; refine a_cndbF rfl ?_; refine a_eql ?_; refine a_cndbT rfl ?_)
      rw [← rowT_zero p 1 (regT p x)]
      refine a_lp (σ := Nat) (fun i => [.i i]) (fun i => [⟨z5, [.sl z4 0 p.unk p.unk, .i 0], .box⟩, ⟨z4, (nD (rowT p 1 (regT p x) i)).flatten, .row 2 1 p.unk⟩, ⟨z3, [.nil, .i 0], .box⟩, ⟨z2, (Tm.mk 3 nm n [x]).cs, .box⟩, ⟨z1, p.cs, .box⟩]) (fun i => i ≤ p.reg ∧ (badS p x = true → i = 0)) (fun i => p.reg - i) 0 (by first | exact Gl.refl _ _ | exact Gl.drop (by repeat (first | exact List.Sublist.refl _ | exact List.Sublist.slnil | apply List.Sublist.cons_cons | apply List.Sublist.cons))) ⟨Nat.zero_le _, fun _ => rfl⟩ ?_
      rintro i K ⟨hi, hbad⟩ hK
      dsimp only [aix0, aix1, aix2, aix3, aix4, aix5, aix6, aix7, aix8]
      ((apply a_ldA 4; exact rfl; exact rfl); refine a_call0 hR ?_; refine a_lss ?_)
      refine a_cnd (fun q => ?_) (fun q => ?_)
      · have hi1 : i < p.reg := by omega
        have hH := c93 hp (r := i) (by omega) x hx
        ((apply a_ldA 4; exact rfl; exact rfl); refine a_fld ?_; (apply a_ld1 3; exact rfl; exact rfl); refine a_idxT0 ?_; (apply a_ldAp; exact rfl); refine a_callS0 (c93 (by first | omega | assumption | decide) (by first | omega | assumption | decide) _ (by first | omega | assumption | decide)) ?_; (apply a_ext; exact rfl); (apply a_ext; exact rfl); refine a_neq ?_)
        cases hb : badS p x with
        | true =>
          simp only [if_true]
          (refine a_cndbT rfl ?_; refine V.a_bld [.nil, .i 0] rfl rfl ?_; refine a_stA 2 rfl rfl rfl rfl ?_; (apply a_ldA 2; exact rfl; exact rfl))
          exact ge_row0
        | false =>
          simp only [Bool.false_eq_true, if_false]
          cases hg : regT p x i with
          | true =>
            (refine a_cndbF rfl ?_; refine a_cndbT rfl ?_; refine a_fld ?_; (apply a_ld1 0; exact rfl; exact rfl))
            refine a_idxO (j := (i : Int)) (by omega) (by omega) ?_
            rw [Int.toNat_natCast]
            refine a_stN 1 i rfl (by rw [rowT_len]; omega) ?_
            rw [rowT_yes hi1 hg]
            (refine a_add (by first | omega | assumption | decide) (by first | omega | assumption | decide) ?_)
            exact hK (i + 1) _ _ ⟨by omega, fun h => by rw [hb] at h; cases h⟩ (by omega) (by first | exact Gl.refl _ _ | exact Gl.drop (by repeat (first | exact List.Sublist.refl _ | exact List.Sublist.slnil | apply List.Sublist.cons_cons | apply List.Sublist.cons)))
          | false =>
            (refine a_cndbF rfl ?_; refine a_cndbF rfl ?_; refine a_add (by first | omega | assumption | decide) (by first | omega | assumption | decide) ?_)
            have hK1 := hK (i + 1)
            rw [← rowT_no hg] at hK1
            exact hK1 _ _ ⟨by omega, fun h => by rw [hb] at h; cases h⟩ (by omega) (by first | exact Gl.refl _ _ | exact Gl.drop (by repeat (first | exact List.Sublist.refl _ | exact List.Sublist.slnil | apply List.Sublist.cons_cons | apply List.Sublist.cons)))
      · rw [show i = p.reg by omega, rowT_end]
        clear hK
        have hb : badS p x = false := by
          cases hb : badS p x with
          | false => rfl
          | true => have := hbad hb; omega
        rw [hb]
        ((apply a_ldA 0; exact rfl; exact rfl); refine a_stA 2 rfl rfl rfl rfl ?_; (apply a_ldA 2; exact rfl; exact rfl))
        refine ge_fz (f := n1) (l := (rowF p 1 0 (regT p x)).c) (c := p.unk) n1_len 1 rfl ?_ (List.nil_sublist _)
        rw [rowF_len]
        exact .tuple (.cons (.agg (.cons .hit (.cons (.refl _) .nil))) (.cons (.refl _) .nil))
    · subst e
      obtain ⟨x, y, rfl, hx, hy⟩ := right2 h (s1 := 1) (s2 := 1) rfl rfl
      have hE : lineE p (.mk 4 nm n [x, y]) = (lineE p x).bind fun u => (lineE p y).bind fun v => joinE addJ u v := by
        rw [lineE, if_neg (by decide), if_neg (by decide), if_neg (by decide), lineL, lineL, lineL]
        simp only
        rw [if_neg (by decide), if_pos trivial]
      have ihx := ih x (by simp [Tm.a]) hx
      have ihy := ih y (by simp [Tm.a]) hy
      have lx := line_len (p := p) x hx
      have ly := line_len (p := p) y hy
      clear ih
      rw [hE]
      (refine a_fld ?_; (apply a_ld1 3; exact rfl; exact rfl); refine a_eql ?_; refine a_cndbF rfl ?_; refine a_eql ?_; refine a_cndbF rfl ?_; refine a_eql ?_; refine a_cndbF rfl ?_; (apply a_ldA 4; exact rfl; exact rfl); refine a_fld ?_; (apply a_ld1 3; exact rfl; exact rfl); refine a_idxT0 ?_; (apply a_ldAp; exact rfl); refine a_callS0 ihx ?_; (apply a_ext; exact rfl); (apply a_ext; exact rfl); refine a_bx fun z6 => ?_; refine a_stA 0 rfl rfl rfl rfl ?_; refine a_neq ?_)
      refine a_cnd (fun q => ?_) (fun q => ?_)
      · rw [rwJ_err q]
        (refine V.a_bld [.nil, .i 0] rfl rfl ?_; refine a_stA 3 rfl rfl rfl rfl ?_; (apply a_ldA 3; exact rfl; exact rfl))
        exact ge_row0
      obtain ⟨u, hu⟩ := rwJ_ok hx (Classical.not_not.1 q)
      rw [hu]
      have lx := lx u hu
      (refine a_fld ?_; (apply a_ld1 4; exact rfl; exact rfl); refine a_eql ?_; refine a_cndbF rfl ?_; (apply a_ldA 5; exact rfl; exact rfl); refine a_fld ?_; (apply a_ld1 4; exact rfl; exact rfl); refine a_idxT1 ?_; (apply a_ldAp; exact rfl); refine a_callS0 ihy ?_; (apply a_ext; exact rfl); (apply a_ext; exact rfl); refine a_bx fun z7 => ?_; refine a_stA 0 rfl rfl rfl rfl ?_; refine a_neq ?_)
      refine a_cnd (fun q2 => ?_) (fun q2 => ?_)
      · rw [rwJ_err q2]
        (refine V.a_bld [.nil, .i 0] rfl rfl ?_; refine a_stA 4 rfl rfl rfl rfl ?_; (apply a_ldA 4; exact rfl; exact rfl))
        exact ge_row0
      obtain ⟨v, hv⟩ := rwJ_ok hy (Classical.not_not.1 q2)
      rw [hv]
      have ly := ly v hv
      have hS := c44 intsJ_add (a := u) (b := v) (by omega) (by omega)
      (refine a_fld ?_; (apply a_ld1 5; exact rfl; exact rfl); (apply a_ldA 1; exact rfl; exact rfl); (apply a_ldA 0; exact rfl; exact rfl); refine a_call0 hS ?_; (apply a_ext; exact rfl); (apply a_ext; exact rfl); refine a_stA 4 rfl rfl rfl rfl ?_; (apply a_ldA 4; exact rfl; exact rfl))
      exact ge_drop _ _
    · subst e
      obtain ⟨x, y, rfl, hx, hy⟩ := right2 h (s1 := 1) (s2 := 1) rfl rfl
      have hE : lineE p (.mk 5 nm n [x, y]) = (lineE p x).bind fun u => (lineE p y).bind fun v => joinE subJ u v := by
        rw [lineE, if_neg (by decide), if_neg (by decide), if_neg (by decide), lineL, lineL, lineL]
        simp only
        rw [if_neg (by decide), if_neg (by decide)]
      have ihx := ih x (by simp [Tm.a]) hx
      have ihy := ih y (by simp [Tm.a]) hy
      have lx := line_len (p := p) x hx
      have ly := line_len (p := p) y hy
      clear ih
      rw [hE]
      (refine a_fld ?_; (apply a_ld1 3; exact rfl; exact rfl); refine a_eql ?_; refine a_cndbF rfl ?_; refine a_eql ?_; refine a_cndbF rfl ?_; refine a_eql ?_; refine a_cndbF rfl ?_; (apply a_ldA 4; exact rfl; exact rfl); refine a_fld ?_; (apply a_ld1 3; exact rfl; exact rfl); refine a_idxT0 ?_; (apply a_ldAp; exact rfl); refine a_callS0 ihx ?_; (apply a_ext; exact rfl); (apply a_ext; exact rfl); refine a_bx fun z6 => ?_; refine a_stA 0 rfl rfl rfl rfl ?_; refine a_neq ?_)
      refine a_cnd (fun q => ?_) (fun q => ?_)
      · rw [rwJ_err q]
        (refine V.a_bld [.nil, .i 0] rfl rfl ?_; refine a_stA 3 rfl rfl rfl rfl ?_; (apply a_ldA 3; exact rfl; exact rfl))
        exact ge_row0
      obtain ⟨u, hu⟩ := rwJ_ok hx (Classical.not_not.1 q)
      rw [hu]
      have lx := lx u hu
      (refine a_fld ?_; (apply a_ld1 4; exact rfl; exact rfl); refine a_eql ?_; refine a_cndbF rfl ?_; (apply a_ldA 5; exact rfl; exact rfl); refine a_fld ?_; (apply a_ld1 4; exact rfl; exact rfl); refine a_idxT1 ?_; (apply a_ldAp; exact rfl); refine a_callS0 ihy ?_; (apply a_ext; exact rfl); (apply a_ext; exact rfl); refine a_bx fun z7 => ?_; refine a_stA 0 rfl rfl rfl rfl ?_; refine a_neq ?_)
      refine a_cnd (fun q2 => ?_) (fun q2 => ?_)
      · rw [rwJ_err q2]
        (refine V.a_bld [.nil, .i 0] rfl rfl ?_; refine a_stA 4 rfl rfl rfl rfl ?_; (apply a_ldA 4; exact rfl; exact rfl))
        exact ge_row0
      obtain ⟨v, hv⟩ := rwJ_ok hy (Classical.not_not.1 q2)
      rw [hv]
      have ly := ly v hv
      have hS := c44 intsJ_sub (a := u) (b := v) (by omega) (by omega)
      (refine a_fld ?_; (apply a_ld1 5; exact rfl; exact rfl); (apply a_ldA 1; exact rfl; exact rfl); (apply a_ldA 0; exact rfl; exact rfl); refine a_call0 hS ?_; (apply a_ext; exact rfl); (apply a_ext; exact rfl); refine a_stA 4 rfl rfl rfl rfl ?_; (apply a_ldA 4; exact rfl; exact rfl))
      exact ge_drop _ _
    · subst e
      obtain ⟨x, rfl, hx⟩ := right1 h (s1 := 1) rfl rfl
      have hE : lineE p (.mk 6 nm n [x]) = (lineE p x).bind fun u => joinE (fun y _ => mulJ n y) u u := by
        rw [lineE, if_neg (by decide), if_neg (by decide), if_neg (by decide), lineL, lineL]
        simp only
        rw [if_pos trivial]
      have ihx := ih x (by simp [Tm.a]) hx
      have lx := line_len (p := p) x hx
      clear ih
      rw [hE]
      (refine a_fld ?_; (apply a_ld1 3; exact rfl; exact rfl); refine a_eql ?_; refine a_cndbF rfl ?_; refine a_eql ?_; refine a_cndbF rfl ?_; refine a_eql ?_; refine a_cndbF rfl ?_; (apply a_ldA 4; exact rfl; exact rfl); refine a_fld ?_; (apply a_ld1 3; exact rfl; exact rfl); refine a_idxT0 ?_; (apply a_ldAp; exact rfl); refine a_callS0 ihx ?_; (apply a_ext; exact rfl); (apply a_ext; exact rfl); refine a_bx fun z6 => ?_; refine a_stA 0 rfl rfl rfl rfl ?_; refine a_neq ?_)
      refine a_cnd (fun q => ?_) (fun q => ?_)
      · rw [rwJ_err q]
        (refine V.a_bld [.nil, .i 0] rfl rfl ?_; refine a_stA 3 rfl rfl rfl rfl ?_; (apply a_ldA 3; exact rfl; exact rfl))
        exact ge_row0
      obtain ⟨u, hu⟩ := rwJ_ok hx (Classical.not_not.1 q)
      rw [hu]
      have lx := lx u hu
      have hEq : ((Except.ok u).bind fun u => joinE (fun y _ => mulJ n y) u u) = joinE (fun y _ => mulJ n y) u u := rfl
      rw [hEq]
      clear hE hEq ihx q hu
      obtain ⟨zs, hzs⟩ : ∃ zs, zs = zipJ (fun y _ => mulJ n y) u u := ⟨_, rfl⟩
      have hz : zs.length = p.unk := by rw [hzs, zipJ_len rfl, lx]
      have hzg : ∀ i (h1 : i < zs.length) (h2 : i < u.c.length), zs[i] = mulJ n u.c[i] := fun i h1 h2 => by
        subst hzs; exact zipJ_get rfl h2
      rw [joinE_eq, ← hzs]
      clear hzs
      have e0 : List.replicate p.unk 0 = outJ zs p.unk 0 := by unfold outJ; simp
      rw [e0]
      (refine a_fld ?_; (apply a_ld1 4; exact rfl; exact rfl); refine a_eql ?_; refine a_cndbT rfl ?_)
      refine a_lp (σ := Nat) (fun i => [.i i]) (fun i => [⟨z6, u.cs, .box⟩, ⟨z5, [.sl z4 0 p.unk p.unk, .i 0], .box⟩, ⟨z4, (nD (outJ zs p.unk i)).flatten, .row 2 1 p.unk⟩, ⟨z3, [.nil, .i 0], .box⟩, ⟨z2, (Tm.mk 6 nm n [x]).cs, .box⟩, ⟨z1, p.cs, .box⟩]) (fun i => i ≤ p.unk ∧ (zs.take i).all (·.2) = true) (fun i => p.unk - i) 0 (by first | exact Gl.refl _ _ | exact Gl.drop (by repeat (first | exact List.Sublist.refl _ | exact List.Sublist.slnil | apply List.Sublist.cons_cons | apply List.Sublist.cons))) ⟨Nat.zero_le _, rfl⟩ ?_
      rintro i K ⟨hi, hall⟩ hK
      dsimp only [aix0, aix1, aix2, aix3, aix4, aix5, aix6, aix7, aix8]
      (refine a_fld ?_; (apply a_ld1 0; exact rfl; exact rfl); refine a_lenM ?_; refine a_lss ?_)
      refine a_cnd (fun q => ?_) (fun q => ?_)
      · have hi1 : i < u.c.length := by omega
        have hv := hzg i (by omega) hi1
        have hst := outJ_step hz (by omega : i < p.unk)
        have hat : (zs.take (i + 1)).all (·.2) = (mulJ n u.c[i]).2 := by
          rw [List.take_succ_eq_append_getElem (by omega), List.all_append, hall, ← hv]; simp
        have hno : (mulJ n u.c[i]).2 = false → zs.all (·.2) = false := fun h => by
          rw [List.all_eq_false]
          exact ⟨_, List.getElem_mem (by omega : i < zs.length), by rw [hv, h]; simp⟩
        rw [hv] at hst
        (refine a_fld ?_; (apply a_ld1 4; exact rfl; exact rfl); refine a_fld ?_; (apply a_ld1 0; exact rfl; exact rfl))
        refine a_idxM (f := n1) i hi1 ?_
        ((apply a_ld1p; exact rfl))
        obtain ⟨v, hV, hv1⟩ := intsJ_mul n u.c[i]
        refine a_callS0 hV ?_
        generalize mulJ n u.c[i] = w at *
        cases hv2 : w.2 with
        | false =>
          ((apply a_ext; exact rfl); (apply a_ext; exact rfl); refine a_not ?_; refine a_cndbT rfl ?_; refine V.a_bld [.nil, .i 0] rfl rfl ?_; refine a_stA 3 rfl rfl rfl rfl ?_; (apply a_ldA 3; exact rfl; exact rfl))
          rw [hno hv2]
          exact ge_row0
        | true =>
          rw [hv1 hv2]
          ((apply a_ext; exact rfl); (apply a_ext; exact rfl); refine a_not ?_; refine a_cndbF rfl ?_; refine a_fld ?_; (apply a_ld1 1; exact rfl; exact rfl))
          refine a_idxO (j := (i : Int)) (by omega) (by omega) ?_
          rw [Int.toNat_natCast]
          refine a_stN 2 i rfl (by rw [outJ_len hz hi]; omega) ?_
          rw [hst]
          (refine a_add (by first | omega | assumption | decide) (by first | omega | assumption | decide) ?_)
          exact hK (i + 1) _ _ ⟨by omega, by rw [hat, hv2]⟩ (by omega) (by first | exact Gl.refl _ _ | exact Gl.drop (by repeat (first | exact List.Sublist.refl _ | exact List.Sublist.slnil | apply List.Sublist.cons_cons | apply List.Sublist.cons)))
      · have hin : i = p.unk := by omega
        clear hK
        subst hin
        have hall : zs.all (·.2) = true := by rwa [List.take_of_length_le (by omega)] at hall
        rw [outJ_end hz, hall]
        (refine a_fld ?_; (apply a_ld1 4; exact rfl; exact rfl); refine a_fld ?_; (apply a_ld1 0; exact rfl; exact rfl))
        obtain ⟨v, hV, hv1⟩ := intsJ_mul n u.k
        refine a_call0 hV ?_
        generalize mulJ n u.k = w at *
        cases hv2 : w.2 with
        | false =>
          ((apply a_ext; exact rfl); (apply a_ext; exact rfl); refine a_not ?_; refine a_cndbT rfl ?_; refine V.a_bld [.nil, .i 0] rfl rfl ?_; refine a_stA 3 rfl rfl rfl rfl ?_; (apply a_ldA 3; exact rfl; exact rfl))
          exact ge_row0
        | true =>
          rw [hv1 hv2]
          ((apply a_ext; exact rfl); (apply a_ext; exact rfl); refine a_not ?_; refine a_cndbF rfl ?_; refine a_fld ?_; (apply a_st 1 _; exact rfl; exact rfl; exact rfl; exact rfl; (try dsimp only [afill, aparts, cl, chunk, List.take, List.drop, List.nil_append, List.cons_append, List.append_nil, List.length_cons, List.length_nil, Nat.zero_add, Nat.reduceAdd, Nat.reduceMul]); try exact rfl); (apply a_ldA 1; exact rfl; exact rfl); refine a_stA 3 rfl rfl rfl rfl ?_; (apply a_ldA 3; exact rfl; exact rfl))
          refine ge_fz (f := n1) (l := zs.map (·.1)) (c := p.unk) n1_len 2 rfl ?_ (List.nil_sublist _)
          rw [List.length_map, hz]
          exact .tuple (.cons (.agg (.cons .hit (.cons (.refl _) .nil))) (.cons (.refl _) .nil))
theorem c14 {p : Pl} (hp : p.Ok) (h6 : p.circ ≤ 6) (t : Tm) (holds : Bool) : AFn pr 14 [p.d, t.d, .b holds] [] (.ret (.tuple [(RowF p t holds).1.d, .i (RowF p t holds).2])) := by
  refine AFn.ofGe (s14 ?_)
  unfold A14
  have hunk := unk_le hp
  have hU := c22 h6 hp.ints
  have hc := c34 t
  rw [RowF_rw]
  refine a_bxv fun z1 => ?_
  refine a_bxv fun z2 => ?_
  refine a_bx fun z3 => ?_
  ((apply a_ldA 1; exact rfl; exact rfl); refine a_call0 hc ?_; (apply a_ext; exact rfl); (apply a_ext; exact rfl))
  refine a_jn (σ := Unit) (fun _ => []) (fun _ => [⟨z3, [.nil, .i 0], .box⟩, ⟨z2, t.cs, .box⟩, ⟨z1, p.cs, .box⟩]) (fun _ => (sortF t).2 = 0 ∧ t.op = 22) ?_ fun J hJ => ?_
  · rintro _ ⟨h1, h2⟩
    rw [if_neg (by omega)]
    obtain ⟨_, _, hr, _⟩ := sortF_ok h1
    cases t with | mk op nm n a =>
    have h2 : op = 22 := h2
    subst h2
    obtain ⟨x, y, rfl, hx, hy⟩ := right2 hr (s1 := 1) (s2 := 1) rfl rfl
    have e0 : (Tm.mk 22 nm n [x, y]).at 0 = x := rfl
    have e1 : (Tm.mk 22 nm n [x, y]).at 1 = y := rfl
    rw [e0, e1]
    have ihx := c43 hp h6 x hx
    have ihy := c43 hp h6 y hy
    have lx := line_len (p := p) x hx
    have ly := line_len (p := p) y hy
    ((apply a_ldA 2; exact rfl; exact rfl); refine a_fld ?_; (apply a_ld1 1; exact rfl; exact rfl); refine a_idxT0 ?_; (apply a_ldAp; exact rfl); refine a_callS0 ihx ?_; (apply a_ext; exact rfl); (apply a_ext; exact rfl); refine a_bx fun z4 => ?_; refine a_stA 0 rfl rfl rfl rfl ?_; refine a_neq ?_)
    refine a_cnd (fun q => ?_) (fun q => ?_)
    · rw [rwJ_err q]
      (refine V.a_bld [.nil, .i 0] rfl rfl ?_; refine a_stA 1 rfl rfl rfl rfl ?_; (apply a_ldA 1; exact rfl; exact rfl))
      exact ge_row0
    obtain ⟨u, hu⟩ := rwJ_ok hx (Classical.not_not.1 q)
    rw [hu]
    have lx := lx u hu
    ((apply a_ldA 3; exact rfl; exact rfl); refine a_fld ?_; (apply a_ld1 2; exact rfl; exact rfl); refine a_idxT1 ?_; (apply a_ldAp; exact rfl); refine a_callS0 ihy ?_; (apply a_ext; exact rfl); (apply a_ext; exact rfl); refine a_bx fun z5 => ?_; refine a_stA 0 rfl rfl rfl rfl ?_; refine a_neq ?_)
    refine a_cnd (fun q2 => ?_) (fun q2 => ?_)
    · rw [rwJ_err q2]
      (refine V.a_bld [.nil, .i 0] rfl rfl ?_; refine a_stA 2 rfl rfl rfl rfl ?_; (apply a_ldA 2; exact rfl; exact rfl))
      exact ge_row0
    obtain ⟨v, hv⟩ := rwJ_ok hy (Classical.not_not.1 q2)
    rw [hv]
    have ly := ly v hv
    have hS := c44 intsJ_sub (a := u) (b := v) (by omega) (by omega)
    have hS2 := c44 intsJ_sub (a := v) (b := u) (by omega) (by omega)
    clear ihx ihy q q2 hu hv
    cases holds with
    | true =>
      simp only [if_true]
      (refine a_cndbT rfl ?_; (apply a_ldA 1; exact rfl; exact rfl); (apply a_ldA 0; exact rfl; exact rfl); refine a_call0 hS ?_; (apply a_ext; exact rfl); (apply a_ext; exact rfl); refine a_stA 2 rfl rfl rfl rfl ?_; (apply a_ldA 2; exact rfl; exact rfl))
      exact ge_drop _ _
    | false =>
      simp only [Bool.false_eq_true, if_false]
      (refine a_cndbF rfl ?_; (apply a_ldA 0; exact rfl; exact rfl); (apply a_ldA 1; exact rfl; exact rfl); refine a_call0 hS2 ?_; (apply a_ext; exact rfl); (apply a_ext; exact rfl); refine a_bx fun z6 => ?_; refine a_stA 0 rfl rfl rfl rfl ?_; refine a_neq ?_)
      cases hw : joinE subJ v u with
      | error e =>
        have := joinE_code hw
        subst this
        (refine a_cndbT rfl ?_; refine V.a_bld [.nil, .i 0] rfl rfl ?_; refine a_stA 3 rfl rfl rfl rfl ?_; (apply a_ldA 3; exact rfl; exact rfl))
        exact ge_row0
      | ok w =>
        have lw := joinE_len (by omega) hw
        have hS3 := c44 intsJ_add (a := w) (b := rowF p 0 1 fun _ => false) (by rw [rowF_len]; omega) (by omega)
        rw [rowF0] at hS3
        rw [rowF0]
        (refine a_cndbF rfl ?_; (apply a_ldA 5; exact rfl; exact rfl); refine a_call0 hU ?_)
        refine a_mkS p.unk p.unk rfl rfl (Nat.le_refl _) (by omega) (by omega) fun z8 => ?_
        refine V.a_bld [.sl z8 0 p.unk p.unk, .i 1] rfl rfl ?_
        refine a_bx fun z9 => ?_
        refine a_stA 0 rfl rfl rfl rfl ?_
        rw [zeros_flat]
        ((apply a_ldA 2; exact rfl; exact rfl); (apply a_ldA 0; exact rfl; exact rfl))
        refine a_callg (args' := [.i 4, w.d, (Rw.mk (List.replicate p.unk 0) 1).d]) (L' := [⟨z3, [.nil, .i 0], .box⟩]) (Gl.trans (Gl.drop (L' := [⟨z8, (nD (List.replicate p.unk 0)).flatten, .row 2 1 p.unk⟩, ⟨z3, [.nil, .i 0], .box⟩]) (by repeat (first | exact List.Sublist.refl _ | exact List.Sublist.slnil | apply List.Sublist.cons_cons | apply List.Sublist.cons))) (gl_fzN n1_len (List.replicate p.unk 0) 0 rfl (by rw [List.length_replicate]) (.cons (.refl _) (.cons (.refl _) (.cons (.agg (.cons .hit (.cons (.refl _) .nil))) .nil))) (WkB.refl _ _ _))) ?_
        refine a_call0 hS3 ?_
        ((apply a_ext; exact rfl); (apply a_ext; exact rfl); refine a_stA 0 rfl rfl rfl rfl ?_; (apply a_ldA 0; exact rfl; exact rfl))
        exact ge_drop _ _
  · (refine a_neq ?_)
    refine a_cnd (fun q => ?_) (fun q => ?_)
    · rw [if_pos (.inl q)]
      (refine V.a_bld [.nil, .i 0] rfl rfl ?_; refine a_stA 0 rfl rfl rfl rfl ?_; (apply a_ldA 0; exact rfl; exact rfl))
      exact ge_row0
    · (refine a_fld ?_; (apply a_ld1 1; exact rfl; exact rfl); refine a_neq ?_)
      refine a_cnd (fun q2 => ?_) (fun q2 => ?_)
      · rw [if_pos (.inr q2)]
        (refine V.a_bld [.nil, .i 0] rfl rfl ?_; refine a_stA 0 rfl rfl rfl rfl ?_; (apply a_ldA 0; exact rfl; exact rfl))
        exact ge_row0
      · exact hJ () _ _ ⟨Classical.not_not.1 q, Classical.not_not.1 q2⟩ (by first | exact Gl.refl _ _ | exact Gl.drop (by repeat (first | exact List.Sublist.refl _ | exact List.Sublist.slnil | apply List.Sublist.cons_cons | apply List.Sublist.cons)))
end Go.Proofs.YtokpeggkofjclaaGreatDoor
/- The document's answer for layer 13: what holds of any world. -/
set_option maxRecDepth 100000
set_option linter.unusedVariables false
namespace Go.V
open Go
theorem WkL.app {h r : D} : ∀ {l l' m m' : List D}, WkL h r l l' → WkL h r m m' → WkL h r (l ++ m) (l' ++ m')
  | _, _, _, _, .nil, t => t
  | _, _, _, _, .cons q s, t => .cons q (WkL.app s t)
theorem rowF_one {p : Pl} {i : Nat} (hi : i < p.reg) : (rowF p (-1) 0 (eqR i)).c = (List.replicate p.unk 0).set i (-1) := by
  unfold rowF eqR
  apply List.ext_getElem
  · simp
  · intro j h1 h2
    rw [List.getElem_set]
    simp only [List.getElem_map, List.getElem_range, List.getElem_replicate]
    by_cases e : i = j
    · subst e; simp [hi]
    · have : ¬ j = i := fun h => e h.symm
      simp [e, this]
theorem rowK (p : Pl) (c k : Int) (f : Nat → Bool) : Rw.cs (rowF p c k f) = [.row 1 (nD (rowF p c 0 f).c), .i k] := rfl
theorem rowK2 (p : Pl) (c k c' k' : Int) (f f' : Nat → Bool) : Rw.cs (rowF p c k f) ++ Rw.cs (rowF p c' k' f') = [.row 1 (nD (rowF p c 0 f).c), .i k, .row 1 (nD (rowF p c' 0 f').c), .i k'] := rfl
theorem flat_snoc {α : Type} (f : α → List D) (l : List α) (x : α) : ((l ++ [x]).map f).flatten = (l.map f).flatten ++ f x := by rw [List.map_append, List.flatten_append]; simp
theorem flat_snoc2 {α : Type} (f : α → List D) (l : List α) (x y : α) : ((l ++ [x, y]).map f).flatten = (l.map f).flatten ++ (f x ++ f y) := by rw [List.map_append, List.flatten_append]; simp
end Go.V
namespace Go.Proofs.YtokpeggkofjclaaGreatDoor
open Go Go.V
theorem c25 {p : Pl} (hp : p.Ok) (h6 : p.circ ≤ 6) : AFn pr 25 [p.d] [] (.ret (.row 2 ((BaseF p).map Rw.cs))) := by
  refine AFn.ofGe (s25 ?_)
  unfold A25
  have hunk := unk_le hp
  have hreg := p.reg_pos
  have hru := reg_unk p
  have hcc : p.sets.length + p.nodes.length = p.circ := rfl
  have hR := c20 h6
  have hU := c22 h6 hp.ints
  refine a_bxv fun z1 => ?_
  refine V.a_bldO [] rfl rfl fun z2 => ?_
  refine a_lp (σ := Nat × Nat × Nat) (fun x => [.sl x.2.1 0 x.1 x.2.2, .i x.1]) (fun x => [⟨x.2.1, ((base1 p x.1).map Rw.cs).flatten, .row 41 2 x.2.2⟩, ⟨z1, p.cs, .box⟩]) (fun x => x.1 ≤ p.reg) (fun x => p.reg - x.1) (0, z2, 0) (by first | exact Gl.refl _ _ | exact Gl.drop (by repeat (first | exact List.Sublist.refl _ | exact List.Sublist.slnil | apply List.Sublist.cons_cons | apply List.Sublist.cons))) (Nat.zero_le _) ?_
  rintro ⟨i, b, c⟩ K hi hK
  dsimp only at hi hK ⊢
  dsimp only [aix0, aix1, aix2, aix3, aix4, aix5, aix6, aix7, aix8]
  ((apply a_ldA 1; exact rfl; exact rfl); refine a_call0 hR ?_; refine a_lss ?_)
  refine a_cnd (fun q => ?_) (fun q => ?_)
  · have hlt : i < p.reg := by omega
    have hl := base1_len p i
    have hK1 := fun b' c' => hK (i + 1, b', c')
    clear hK
    simp only [base1_succ, flat_snoc, rowK, rowF_one hlt] at hK1
    generalize base1 p i = l at *
    ((apply a_ldA 1; exact rfl; exact rfl); refine a_call0 hU ?_)
    refine a_mkS p.unk p.unk rfl rfl (Nat.le_refl _) (by omega) (by omega) fun z4 => ?_
    refine V.a_bld [.sl z4 0 p.unk p.unk, .i 0] rfl rfl ?_
    refine a_bx fun z5 => ?_
    refine a_stA 0 rfl rfl rfl rfl ?_
    rw [zeros_flat]
    (refine a_fld ?_; (apply a_ld1 0; exact rfl; exact rfl))
    refine a_idxO (j := (i : Int)) (by omega) (by omega) ?_
    rw [Int.toNat_natCast]
    refine a_stN 1 i rfl (by rw [List.length_replicate]; omega) ?_
    ((apply a_ldA 0; exact rfl; exact rfl); (apply a_bldS _; exact rfl; (try dsimp only [afill, aparts, cl, chunk, List.take, List.drop, List.nil_append, List.cons_append, List.append_nil, List.length_cons, List.length_nil, Nat.zero_add, Nat.reduceAdd, Nat.reduceMul]); try exact rfl))
    refine V.a_app 2 _ 1 [.sl z4 0 p.unk p.unk, .i 0] rfl (by rw [flat_len Rw.cs_len, hl]) ⟨rfl, rfl, rfl⟩ rfl (by omega) fun b' c' => ?_
    (refine a_add (by first | omega | assumption | decide) (by first | omega | assumption | decide) ?_)
    refine hK1 b' c' _ _ (by omega) (by omega) (Gl.trans (Gl.drop (List.sublist_cons_self _ _)) ?_)
    exact gl_fzN n1_len ((List.replicate p.unk 0).set i (-1)) 0 rfl (by rw [List.length_set, List.length_replicate]) (WkL.refl _ _ _) (.cons (WkL.app (WkL.refl _ _ _) (.cons .hit (.cons (.refl _) .nil))) (WkB.refl _ _ _))
  · rw [show i = p.reg by omega]
    clear hK
    have hl := base1_len p p.reg
    unfold BaseF
    generalize base1 p p.reg = l at *
    ((apply a_ldA 1; exact rfl; exact rfl); refine a_call0 hU ?_)
    refine a_mkS p.unk p.unk rfl rfl (Nat.le_refl _) (by omega) (by omega) fun z4 => ?_
    refine V.a_bld [.sl z4 0 p.unk p.unk, .i 1] rfl rfl ?_
    refine a_bx fun z5 => ?_
    refine a_stA 0 rfl rfl rfl rfl ?_
    rw [zeros_flat, ← rowT_zero p (-1) (fun _ => true)]
    refine a_lp (σ := Nat) (fun i => [.i i]) (fun i => [⟨z5, [.sl z4 0 p.unk p.unk, .i 1], .box⟩, ⟨z4, (nD (rowT p (-1) (fun _ => true) i)).flatten, .row 2 1 p.unk⟩, ⟨b, (l.map Rw.cs).flatten, .row 41 2 c⟩, ⟨z1, p.cs, .box⟩]) (fun i => i ≤ p.reg) (fun i => p.reg - i) 0 (by first | exact Gl.refl _ _ | exact Gl.drop (by repeat (first | exact List.Sublist.refl _ | exact List.Sublist.slnil | apply List.Sublist.cons_cons | apply List.Sublist.cons))) (Nat.zero_le _) ?_
    rintro j K hj hK
    dsimp only [aix0, aix1, aix2, aix3, aix4, aix5, aix6, aix7, aix8]
    ((apply a_ldA 3; exact rfl; exact rfl); refine a_call0 hR ?_; refine a_lss ?_)
    refine a_cnd (fun q2 => ?_) (fun q2 => ?_)
    · have hj1 : j < p.reg := by omega
      (refine a_fld ?_; (apply a_ld1 0; exact rfl; exact rfl))
      refine a_idxO (j := (j : Int)) (by omega) (by omega) ?_
      rw [Int.toNat_natCast]
      refine a_stN 1 j rfl (by rw [rowT_len]; omega) ?_
      rw [rowT_yes hj1 rfl]
      (refine a_add (by first | omega | assumption | decide) (by first | omega | assumption | decide) ?_)
      exact hK (j + 1) _ _ (by omega) (by omega) (by first | exact Gl.refl _ _ | exact Gl.drop (by repeat (first | exact List.Sublist.refl _ | exact List.Sublist.slnil | apply List.Sublist.cons_cons | apply List.Sublist.cons)))
    · rw [show j = p.reg by omega, rowT_end]
      clear hK
      ((apply a_ldA 0; exact rfl; exact rfl); (apply a_bldS _; exact rfl; (try dsimp only [afill, aparts, cl, chunk, List.take, List.drop, List.nil_append, List.cons_append, List.append_nil, List.length_cons, List.length_nil, Nat.zero_add, Nat.reduceAdd, Nat.reduceMul]); try exact rfl))
      refine V.a_app 2 _ 1 [.sl z4 0 p.unk p.unk, .i 1] rfl (by rw [flat_len Rw.cs_len, hl]) ⟨rfl, rfl, rfl⟩ rfl (by omega) fun b1 c1 => ?_
      have hlm : (l ++ [rowF p (-1) 1 fun _ => true]).length = p.reg + 1 := by rw [List.length_append, hl]; rfl
      have hfl := flat_snoc Rw.cs l (rowF p (-1) 1 fun _ => true)
      generalize l ++ [rowF p (-1) 1 fun _ => true] = m at hlm hfl ⊢
      refine a_lp (σ := Nat × Nat × Nat) (fun x => [.sl x.2.1 0 (p.reg + 1 + 2 * x.1) x.2.2, .i x.1]) (fun x => [⟨x.2.1, ((m ++ base2 p x.1).map Rw.cs).flatten, .row 41 2 x.2.2⟩, ⟨z1, p.cs, .box⟩]) (fun x => x.1 ≤ p.nodes.length) (fun x => p.nodes.length - x.1) (0, b1, c1) ?_ (Nat.zero_le _) ?_
      · refine Gl.trans (Gl.drop (List.sublist_cons_self _ _)) ?_
        have : (m ++ base2 p 0) = m := List.append_nil _
        dsimp only
        rw [this, hfl, rowK]
        exact gl_fzN n1_len (rowF p (-1) 0 fun _ => true).c 0 rfl (rowF_len ..).symm (WkL.refl _ _ _) (.cons (WkL.app (WkL.refl _ _ _) (.cons .hit (.cons (.refl _) .nil))) (WkB.refl _ _ _))
      rintro ⟨k, b2, c2⟩ K hk hK
      dsimp only at hk hK ⊢
      dsimp only [aix0, aix1, aix2, aix3, aix4, aix5, aix6, aix7, aix8]
      (refine a_fld ?_; (apply a_ld1 1; exact rfl; exact rfl); refine a_lenM ?_; refine a_lss ?_)
      refine a_cnd (fun q3 => ?_) (fun q3 => ?_)
      · have hlt : k < p.nodes.length := by omega
        have hl2 := base2_len p k
        have hK1 := fun b' c' => hK (k + 1, b', c')
        clear hK
        simp only [base2, ← List.append_assoc, flat_snoc2, rowK2] at hK1
        have hll : (m ++ base2 p k).length = p.reg + 1 + 2 * k := by rw [List.length_append]; omega
        generalize m ++ base2 p k = l2 at *
        ((apply a_ldA 1; exact rfl; exact rfl); refine a_call0 hU ?_)
        refine a_mkS p.unk p.unk rfl rfl (Nat.le_refl _) (by omega) (by omega) fun y1 => ?_
        refine V.a_bld [.sl y1 0 p.unk p.unk, .i (-1)] rfl rfl ?_
        refine a_bx fun y2 => ?_
        refine a_stA 0 rfl rfl rfl rfl ?_
        rw [zeros_flat]
        ((apply a_ldA 3; exact rfl; exact rfl); refine a_call0 hU ?_)
        refine a_mkS p.unk p.unk rfl rfl (Nat.le_refl _) (by omega) (by omega) fun y3 => ?_
        refine V.a_bld [.sl y3 0 p.unk p.unk, .i 1] rfl rfl ?_
        refine a_bx fun y4 => ?_
        refine a_stA 0 rfl rfl rfl rfl ?_
        rw [zeros_flat]
        have eu := rowT_zero p 1 (fun r => inB r (p.sets.length + k))
        have ed := rowT_zero p (-1) (fun r => inB r (p.sets.length + k))
        refine a_lp (σ := Nat) (fun i => [.i i]) (fun i => [⟨y4, [.sl y3 0 p.unk p.unk, .i 1], .box⟩, ⟨y3, (nD (rowT p (-1) (fun r => inB r (p.sets.length + k)) i)).flatten, .row 2 1 p.unk⟩, ⟨y2, [.sl y1 0 p.unk p.unk, .i (-1)], .box⟩, ⟨y1, (nD (rowT p 1 (fun r => inB r (p.sets.length + k)) i)).flatten, .row 2 1 p.unk⟩, ⟨b2, (l2.map Rw.cs).flatten, .row 41 2 c2⟩, ⟨z1, p.cs, .box⟩]) (fun i => i ≤ p.reg) (fun i => p.reg - i) 0 (by rw [eu, ed]; exact Gl.refl _ _) (Nat.zero_le _) ?_
        rintro j K hj hK
        dsimp only [aix0, aix1, aix2, aix3, aix4, aix5, aix6, aix7, aix8]
        ((apply a_ldA 5; exact rfl; exact rfl); refine a_call0 hR ?_; refine a_lss ?_)
        refine a_cnd (fun q2 => ?_) (fun q2 => ?_)
        · have hj1 : j < p.reg := by omega
          have hin := c58 (r := j) (c := p.sets.length + k) (by omega) (by omega)
          have hKn := hK (j + 1)
          (refine a_fld ?_; (apply a_ld1 5; exact rfl; exact rfl); refine a_lenM ?_; refine a_add (by first | omega | assumption | decide) (by first | omega | assumption | decide) ?_; refine a_call0 hin ?_)
          cases hb : inB j (p.sets.length + k) with
          | true =>
            rw [← rowT_yes (f := fun r => inB r (p.sets.length + k)) hj1 hb, ← rowT_yes (f := fun r => inB r (p.sets.length + k)) hj1 hb] at hKn
            (refine a_cndbT rfl ?_; refine a_fld ?_; (apply a_ld1 2; exact rfl; exact rfl))
            refine a_idxO (j := (j : Int)) (by omega) (by omega) ?_
            rw [Int.toNat_natCast]
            refine a_stN 3 j rfl (by rw [rowT_len]; omega) ?_
            (refine a_fld ?_; (apply a_ld1 0; exact rfl; exact rfl))
            refine a_idxO (j := (j : Int)) (by omega) (by omega) ?_
            rw [Int.toNat_natCast]
            refine a_stN 1 j rfl (by rw [rowT_len]; omega) ?_
            (refine a_add (by first | omega | assumption | decide) (by first | omega | assumption | decide) ?_)
            exact hKn _ _ (by omega) (by omega) (by first | exact Gl.refl _ _ | exact Gl.drop (by repeat (first | exact List.Sublist.refl _ | exact List.Sublist.slnil | apply List.Sublist.cons_cons | apply List.Sublist.cons)))
          | false =>
            rw [← rowT_no (f := fun r => inB r (p.sets.length + k)) hb, ← rowT_no (f := fun r => inB r (p.sets.length + k)) hb] at hKn
            (refine a_cndbF rfl ?_; refine a_add (by first | omega | assumption | decide) (by first | omega | assumption | decide) ?_)
            exact hKn _ _ (by omega) (by omega) (by first | exact Gl.refl _ _ | exact Gl.drop (by repeat (first | exact List.Sublist.refl _ | exact List.Sublist.slnil | apply List.Sublist.cons_cons | apply List.Sublist.cons)))
        · rw [show j = p.reg by omega, rowT_end, rowT_end]
          clear hK
          ((apply a_ldA 2; exact rfl; exact rfl); (apply a_ldA 0; exact rfl; exact rfl); (apply a_bldS _; exact rfl; (try dsimp only [afill, aparts, cl, chunk, List.take, List.drop, List.nil_append, List.cons_append, List.append_nil, List.length_cons, List.length_nil, Nat.zero_add, Nat.reduceAdd, Nat.reduceMul]); try exact rfl))
          refine V.a_app 4 _ 2 [.sl y1 0 p.unk p.unk, .i (-1), .sl y3 0 p.unk p.unk, .i 1] rfl (by rw [flat_len Rw.cs_len, hll]) ⟨rfl, rfl, rfl⟩ rfl (by omega) fun b' c' => ?_
          (refine a_add (by first | omega | assumption | decide) (by first | omega | assumption | decide) ?_)
          refine hK1 b' c' _ _ (by omega) (by omega) ?_
          refine Gl.trans (Gl.drop (L' := [⟨y3, (nD (rowF p (-1) 0 fun r => inB r (p.sets.length + k)).c).flatten, .row 2 1 p.unk⟩, ⟨y1, (nD (rowF p 1 0 fun r => inB r (p.sets.length + k)).c).flatten, .row 2 1 p.unk⟩, ⟨b', (l2.map Rw.cs).flatten ++ [.sl y1 0 p.unk p.unk, .i (-1), .sl y3 0 p.unk p.unk, .i 1], .row 41 2 c'⟩, ⟨z1, p.cs, .box⟩]) (by repeat (first | exact List.Sublist.refl _ | exact List.Sublist.slnil | apply List.Sublist.cons_cons | apply List.Sublist.cons))) ?_
          refine Gl.trans (gl_fzN (L' := [⟨y1, (nD (rowF p 1 0 fun r => inB r (p.sets.length + k)).c).flatten, .row 2 1 p.unk⟩, ⟨b', (l2.map Rw.cs).flatten ++ [.sl y1 0 p.unk p.unk, .i (-1), .row 1 (nD (rowF p (-1) 0 fun r => inB r (p.sets.length + k)).c), .i 1], .row 41 2 c'⟩, ⟨z1, p.cs, .box⟩]) n1_len (rowF p (-1) 0 fun r => inB r (p.sets.length + k)).c 0 rfl (rowF_len ..).symm (WkL.refl _ _ _) (.cons (WkL.refl _ _ _) (.cons (WkL.app (WkL.refl _ _ _) (.cons (.refl _) (.cons (.refl _) (.cons .hit (.cons (.refl _) .nil))))) (WkB.refl _ _ _)))) ?_
          exact gl_fzN n1_len (rowF p 1 0 fun r => inB r (p.sets.length + k)).c 0 rfl (rowF_len ..).symm (WkL.refl _ _ _) (.cons (WkL.app (WkL.refl _ _ _) (.cons .hit (.cons (.refl _) (.cons (.refl _) (.cons (.refl _) .nil))))) (WkB.refl _ _ _))
      · rw [show k = p.nodes.length by omega]
        clear hK
        have hl2 := base2_len p p.nodes.length
        have hll : (m ++ base2 p p.nodes.length).length = p.reg + 1 + 2 * p.nodes.length := by rw [List.length_append]; omega
        refine ge_fz (f := Rw.cs) (l := m ++ base2 p p.nodes.length) (c := c2) Rw.cs_len 0 rfl ?_ (List.nil_sublist _)
        rw [hll]
        exact .hit
end Go.Proofs.YtokpeggkofjclaaGreatDoor
/- The document's answer for layer 13: what is counted of a world. -/
set_option maxRecDepth 100000
set_option linter.unusedVariables false
namespace Go.V
open Go
theorem or_add {x i : Nat} (h : x < 2 ^ i) : ((x : Nat) : Int) + ((2 ^ i : Nat) : Int) = ((x ||| 2 ^ i : Nat) : Int) := by
  have := Nat.two_pow_add_eq_or_of_lt h 1
  rw [Nat.mul_one, Nat.or_comm] at this
  omega
end Go.V
namespace Go.Proofs.YtokpeggkofjclaaGreatDoor
open Go Go.V
theorem c16 {p : Pl} (hp : p.Ok) (h6 : p.circ ≤ 6) (w : Wd) : AFn pr 16 [p.d, w.d] [] (.ret (.tuple [.row 1 (nD (CountF p w).1), .i (CountF p w).2])) := by
  refine AFn.ofGe (s16 ?_)
  unfold A16
  have hreg := p.reg_pos
  have hunk := unk_le hp
  have hru := reg_unk p
  have hil := hp.ints
  have hR := c20 h6
  have hU := c22 h6 hp.ints
  have hpw : ∀ k, k ≤ 6 → 2 ^ k ≤ 64 := fun k hk => Nat.pow_le_pow_right (n := 2) (by omega) hk
  have hreg2 : p.reg = 2 ^ p.circ := by unfold Pl.reg; rw [Nat.min_eq_left h6]
  have hns : p.sets.length + p.nodes.length = p.circ := rfl
  refine a_bxv fun z1 => ?_
  refine a_bxv fun z2 => ?_
  ((apply a_ldA 0; exact rfl; exact rfl); refine a_call0 (c47 w) ?_; refine a_not ?_)
  cases hw : rightW w with
  | false =>
    have hC : CountF p w = ([], 1) := by unfold CountF; rw [if_pos hw]
    rw [hC]
    (refine a_cndbT rfl ?_)
    exact ge_nil1
  | true =>
  obtain ⟨hn1, hn64, hnl, _⟩ := rightW_spec hw
  obtain ⟨n, hn⟩ : ∃ n : Nat, w.nodes = n := ⟨w.nodes.toNat, by omega⟩
  have hnn : w.nodes.toNat = n := by omega
  have hset : ∀ s v, getF w.names s 2 = some v → v.s.length = n := fun s v hs => by
    have := (getF_okV hw hs).len
    rw [if_pos rfl, hnn] at this
    exact this
  have hnod : ∀ s v, getF w.names s 3 = some v → 0 ≤ v.n ∧ v.n < n := fun s v hs => by
    have := (getF_okV hw hs).nod rfl
    rw [hn] at this
    exact this
  (refine a_cndbF rfl ?_; (apply a_ldA 1; exact rfl; exact rfl); refine a_call0 hU ?_)
  refine a_mkS p.unk p.unk rfl rfl (Nat.le_refl _) (by omega) (by omega) fun z3 => ?_
  (refine a_fld ?_; (apply a_ld1 1; exact rfl; exact rfl))
  rw [hn]
  refine a_mkS n n rfl rfl (Nat.le_refl _) (by omega) (by omega) fun z4 => ?_
  rw [zeros_flat, zeros_flat, ← nI_zero n]
  have hans := CountF_go p hw
  rw [hnn] at hans
  unfold CountG at hans
  generalize CountF p w = ans at hans ⊢
  refine a_lp (σ := Nat × List Nat) (fun x => [.i ((2 ^ x.1 : Nat) : Int), .i x.1]) (fun x => [⟨z4, (nD (nI x.2)).flatten, .row 3 1 n⟩, ⟨z3, (nD (List.replicate p.unk 0)).flatten, .row 2 1 p.unk⟩, ⟨z2, w.cs, .box⟩, ⟨z1, p.cs, .box⟩]) (fun x => x.1 ≤ p.sets.length ∧ x.2.length = n ∧ (∀ y ∈ x.2, y < 2 ^ x.1) ∧ markS w x.1 (p.sets.drop x.1) x.2 = markS w 0 p.sets (List.replicate n 0)) (fun x => p.sets.length - x.1) (0, List.replicate n 0) (by first | exact Gl.refl _ _ | exact Gl.drop (by repeat (first | exact List.Sublist.refl _ | exact List.Sublist.slnil | apply List.Sublist.cons_cons | apply List.Sublist.cons))) ⟨Nat.zero_le _, List.length_replicate, fun y hy => by rw [List.eq_of_mem_replicate hy]; exact Nat.pow_pos (by omega), rfl⟩ ?_
  rintro ⟨i, rg⟩ K ⟨hi, hrl, hlt, hm⟩ hK
  dsimp only at hi hrl hlt hm hK ⊢
  dsimp only [aix0, aix1, aix2, aix3, aix4, aix5, aix6, aix7, aix8]
  (refine a_fld ?_; (apply a_ld1 3; exact rfl; exact rfl); refine a_lenM ?_; refine a_lss ?_)
  have hK := fun r => hK (i + 1, r)
  have hp2 : 2 ^ (i + 1) = 2 ^ i * 2 := Nat.pow_succ ..
  have h64 := hpw i (by omega)
  have e1 : (2 : Int) * ((2 ^ i : Nat) : Int) = ((2 ^ (i + 1) : Nat) : Int) := by omega
  refine a_cnd (fun q => ?_) (fun q => ?_)
  · have hil2 : i < p.sets.length := by omega
    rw [List.drop_eq_getElem_cons hil2, markS] at hm
    ((apply a_ldA 2; exact rfl; exact rfl); refine a_fld ?_; (apply a_ld1 3; exact rfl; exact rfl))
    refine a_idxM (f := s1) i hil2 ?_
    have hG := c48 w p.sets[i] 2
    cases hg : getF w.names p.sets[i] 2 with
    | none =>
      rw [hg] at hm
      simp only at hm
      rw [getV0 hg] at hG
      ((apply a_ld1p; exact rfl); refine a_callS0 hG ?_; (apply a_ext; exact rfl); (apply a_ext; exact rfl); refine a_bx fun z5 => ?_; refine a_stA 0 rfl rfl rfl rfl ?_; refine a_not ?_; refine a_cndbT rfl ?_)
      rw [← hm] at hans
      rw [hans]
      exact ge_nil1
    | some v =>
      rw [hg] at hm
      simp only at hm
      have hvl := hset _ v hg
      have hsl : v.s.length = rg.length := by omega
      rw [getV hg] at hG
      ((apply a_ld1p; exact rfl); refine a_callS0 hG ?_; (apply a_ext; exact rfl); (apply a_ext; exact rfl); refine a_bx fun z5 => ?_; refine a_stA 0 rfl rfl rfl rfl ?_; refine a_not ?_; refine a_cndbF rfl ?_)
      refine a_lp (σ := Nat) (fun k => [.i k]) (fun k => [⟨z5, v.cs, .box⟩, ⟨z4, (nD (nI (orT rg v.s i k))).flatten, .row 3 1 n⟩, ⟨z3, (nD (List.replicate p.unk 0)).flatten, .row 2 1 p.unk⟩, ⟨z2, w.cs, .box⟩, ⟨z1, p.cs, .box⟩]) (fun k => k ≤ n) (fun k => n - k) 0 (by first | exact Gl.refl _ _ | exact Gl.drop (by repeat (first | exact List.Sublist.refl _ | exact List.Sublist.slnil | apply List.Sublist.cons_cons | apply List.Sublist.cons))) (Nat.zero_le _) ?_
      rintro k K2 hk hK2
      dsimp only [aix0, aix1, aix2, aix3, aix4, aix5, aix6, aix7, aix8]
      (refine a_fld ?_; (apply a_ld1 3; exact rfl; exact rfl); refine a_lss ?_)
      refine a_cnd (fun q2 => ?_) (fun q2 => ?_)
      · have hkn : k < n := by omega
        have hst := orT_step (i := i) hsl (k := k) (by omega)
        have hol := orT_len (i := i) (k := k) hsl
        have hgt := orT_get (i := i) hsl (k := k) (by omega)
        have hrk := getD_lt_of hlt (Nat.pow_pos (by omega)) k
        have hor := or_add hrk
        (refine a_fld ?_; (apply a_ld1 0; exact rfl; exact rfl))
        refine a_idxM (f := bc) k (by omega) ?_
        ((apply a_ld1p; exact rfl))
        refine a_cndb (fun q3 => ?_) (fun q3 => ?_)
        · rw [getD_lt' (show k < v.s.length by omega), q3, if_pos rfl] at hst
          refine a_idxO (j := (k : Int)) (by omega) (by omega) ?_
          rw [Int.toNat_natCast]
          refine a_ldNo 1 k rfl (by rw [nI_len]; omega) ?_
          rw [nI_at, hgt]
          refine a_add (by omega) (by omega) ?_
          rw [hor]
          refine a_idxO (j := (k : Int)) (by omega) (by omega) ?_
          rw [Int.toNat_natCast]
          refine a_stN 1 k rfl (by rw [nI_len]; omega) ?_
          rw [nI_set, ← hst]
          (refine a_add (by first | omega | assumption | decide) (by first | omega | assumption | decide) ?_)
          exact hK2 (k + 1) _ _ (by omega) (by omega) (by first | exact Gl.refl _ _ | exact Gl.drop (by repeat (first | exact List.Sublist.refl _ | exact List.Sublist.slnil | apply List.Sublist.cons_cons | apply List.Sublist.cons)))
        · rw [getD_lt' (show k < v.s.length by omega), q3, if_neg (by decide), ← hgt, set_self (by omega)] at hst
          (refine a_add (by first | omega | assumption | decide) (by first | omega | assumption | decide) ?_)
          have := hK2 (k + 1)
          rw [hst] at this
          exact this _ _ (by omega) (by omega) (by first | exact Gl.refl _ _ | exact Gl.drop (by repeat (first | exact List.Sublist.refl _ | exact List.Sublist.slnil | apply List.Sublist.cons_cons | apply List.Sublist.cons)))
      · rw [show k = rg.length by omega, orT_end hsl]
        clear hK2
        refine a_mul (by omega) (by omega) ?_
        rw [e1]
        (refine a_add (by first | omega | assumption | decide) (by first | omega | assumption | decide) ?_)
        exact hK (orS rg v.s i) _ _ ⟨by simp only; omega, by rw [orS_len hsl]; exact hrl, orS_lt hlt, hm⟩ (by simp only; omega) (by first | exact Gl.refl _ _ | exact Gl.drop (by repeat (first | exact List.Sublist.refl _ | exact List.Sublist.slnil | apply List.Sublist.cons_cons | apply List.Sublist.cons)))
  · rw [show i = p.sets.length by omega, List.drop_length, markS] at hm
    rw [show i = p.sets.length by omega] at hlt
    rw [show i = p.sets.length by omega]
    clear hK hp2 e1 h64
    rw [← hm] at hans
    simp only at hans
    clear hm
    skip
    refine a_lp (σ := Nat × List Nat) (fun x => [.i ((2 ^ (p.sets.length + x.1) : Nat) : Int), .i x.1]) (fun x => [⟨z4, (nD (nI x.2)).flatten, .row 3 1 n⟩, ⟨z3, (nD (List.replicate p.unk 0)).flatten, .row 2 1 p.unk⟩, ⟨z2, w.cs, .box⟩, ⟨z1, p.cs, .box⟩]) (fun x => x.1 ≤ p.nodes.length ∧ x.2.length = n ∧ (∀ y ∈ x.2, y < 2 ^ (p.sets.length + x.1)) ∧ markN w (p.sets.length + x.1) (p.nodes.drop x.1) x.2 = markN w p.sets.length p.nodes rg) (fun x => p.nodes.length - x.1) (0, rg) (by first | exact Gl.refl _ _ | exact Gl.drop (by repeat (first | exact List.Sublist.refl _ | exact List.Sublist.slnil | apply List.Sublist.cons_cons | apply List.Sublist.cons))) ⟨Nat.zero_le _, hrl, hlt, rfl⟩ ?_
    clear hrl hlt
    generalize hmn : markN w p.sets.length p.nodes rg = mn at *
    clear hmn rg
    rintro ⟨i, rg⟩ K ⟨hi, hrl, hlt, hm⟩ hK
    dsimp only at hi hrl hlt hm hK ⊢
    dsimp only [aix0, aix1, aix2, aix3, aix4, aix5, aix6, aix7, aix8]
    (refine a_fld ?_; (apply a_ld1 3; exact rfl; exact rfl); refine a_lenM ?_; refine a_lss ?_)
    have hK := fun r => hK (i + 1, r)
    have hp2 : 2 ^ (p.sets.length + (i + 1)) = 2 ^ (p.sets.length + i) * 2 := Nat.pow_succ ..
    have h64 := hpw (p.sets.length + i) (by omega)
    have e1 : (2 : Int) * ((2 ^ (p.sets.length + i) : Nat) : Int) = ((2 ^ (p.sets.length + (i + 1)) : Nat) : Int) := by omega
    refine a_cnd (fun q => ?_) (fun q => ?_)
    · have hil2 : i < p.nodes.length := by omega
      rw [List.drop_eq_getElem_cons hil2, markN] at hm
      ((apply a_ldA 2; exact rfl; exact rfl); refine a_fld ?_; (apply a_ld1 3; exact rfl; exact rfl))
      refine a_idxM (f := s1) i hil2 ?_
      have hG := c48 w p.nodes[i] 3
      cases hg : getF w.names p.nodes[i] 3 with
      | none =>
        rw [hg] at hm
        simp only at hm
        rw [getV0 hg] at hG
        ((apply a_ld1p; exact rfl); refine a_callS0 hG ?_; (apply a_ext; exact rfl); (apply a_ext; exact rfl); refine a_bx fun z5 => ?_; refine a_stA 0 rfl rfl rfl rfl ?_; refine a_not ?_; refine a_cndbT rfl ?_)
        rw [← hm] at hans
        rw [hans]
        exact ge_nil1
      | some v =>
        rw [hg] at hm
        simp only at hm
        obtain ⟨hv0, hvn⟩ := hnod _ v hg
        have hrk := getD_lt_of hlt (Nat.pow_pos (by omega)) v.n.toNat
        have hor := or_add hrk
        rw [getV hg] at hG
        ((apply a_ld1p; exact rfl); refine a_callS0 hG ?_; (apply a_ext; exact rfl); (apply a_ext; exact rfl); refine a_bx fun z5 => ?_; refine a_stA 0 rfl rfl rfl rfl ?_; refine a_not ?_; refine a_cndbF rfl ?_; refine a_fld ?_; (apply a_ld1 0; exact rfl; exact rfl); refine a_fld ?_; (apply a_ld1 0; exact rfl; exact rfl))
        refine a_idxO (j := v.n) hv0 hvn ?_
        refine a_ldNo 1 v.n.toNat rfl (by rw [nI_len]; omega) ?_
        rw [nI_at]
        refine a_add (by omega) (by omega) ?_
        rw [hor]
        refine a_idxO (j := v.n) hv0 hvn ?_
        refine a_stN 1 v.n.toNat rfl (by rw [nI_len]; omega) ?_
        rw [nI_set]
        refine a_mul (by omega) (by omega) ?_
        rw [e1]
        (refine a_add (by first | omega | assumption | decide) (by first | omega | assumption | decide) ?_)
        exact hK _ _ _ ⟨by simp only; omega, by rw [List.length_set]; exact hrl, set_lt hlt, hm⟩ (by simp only; omega) (by first | exact Gl.refl _ _ | exact Gl.drop (by repeat (first | exact List.Sublist.refl _ | exact List.Sublist.slnil | apply List.Sublist.cons_cons | apply List.Sublist.cons)))
    · rw [show i = p.nodes.length by omega, List.drop_length, markN] at hm
      rw [show i = p.nodes.length by omega, hns, ← hreg2] at hlt
      clear hK hp2 e1 h64
      rw [← hm] at hans
      simp only at hans
      clear hm
      generalize hta : tally (List.replicate p.unk 0) rg = ta at *
      refine a_lp (σ := Nat × List Int) (fun x => [.i x.1]) (fun x => [⟨z4, (nD (nI rg)).flatten, .row 3 1 n⟩, ⟨z3, (nD x.2).flatten, .row 2 1 p.unk⟩, ⟨z2, w.cs, .box⟩, ⟨z1, p.cs, .box⟩]) (fun x => x.1 ≤ n ∧ x.2.length = p.unk ∧ (∀ j, 0 ≤ x.2.getD j 0 ∧ x.2.getD j 0 ≤ x.1) ∧ tally x.2 (rg.drop x.1) = ta) (fun x => n - x.1) (0, List.replicate p.unk 0) (by first | exact Gl.refl _ _ | exact Gl.drop (by repeat (first | exact List.Sublist.refl _ | exact List.Sublist.slnil | apply List.Sublist.cons_cons | apply List.Sublist.cons))) ⟨Nat.zero_le _, List.length_replicate, fun j => by rw [List.getD_eq_getElem?_getD, List.getElem?_replicate]; split <;> simp, hta⟩ ?_
      rintro ⟨k, l⟩ K ⟨hk, hll, hb, ht⟩ hK
      dsimp only at hk hll hb ht hK ⊢
      dsimp only [aix0, aix1, aix2, aix3, aix4, aix5, aix6, aix7, aix8]
      (refine a_fld ?_; (apply a_ld1 2; exact rfl; exact rfl); refine a_lss ?_)
      refine a_cnd (fun q2 => ?_) (fun q2 => ?_)
      · have hkn : k < n := by omega
        have hkr : k < rg.length := by omega
        rw [List.drop_eq_getElem_cons hkr, tally] at ht
        have hrk : rg[k] < p.reg := hlt _ (List.getElem_mem _)
        have hbk := hb rg[k]
        refine a_idxO (j := (k : Int)) (by omega) (by omega) ?_
        rw [Int.toNat_natCast]
        refine a_ldNo 0 k rfl (by rw [nI_len]; omega) ?_
        rw [nI_at, getD_lt' hkr]
        skip
        refine a_idxO (j := (rg[k] : Int)) (by omega) (by omega) ?_
        rw [Int.toNat_natCast]
        refine a_ldNo 1 rg[k] rfl (by omega) ?_
        rw [getD_lt' (show rg[k] < l.length by omega)] at ht hbk
        refine a_add (by omega) (by omega) ?_
        refine a_idxO (j := (rg[k] : Int)) (by omega) (by omega) ?_
        rw [Int.toNat_natCast]
        refine a_stN 1 rg[k] rfl (by omega) ?_
        (refine a_add (by first | omega | assumption | decide) (by first | omega | assumption | decide) ?_)
        refine hK (k + 1, _) _ _ ⟨by simp only; omega, by rw [List.length_set]; exact hll, fun j => ?_, ht⟩ (by simp only; omega) (by first | exact Gl.refl _ _ | exact Gl.drop (by repeat (first | exact List.Sublist.refl _ | exact List.Sublist.slnil | apply List.Sublist.cons_cons | apply List.Sublist.cons)))
        have := hb j
        simp only
        rw [getD_set']
        split <;> omega
      · rw [show k = n by omega, List.drop_eq_nil_of_le (by omega), tally] at ht
        clear hK
        subst ht
        skip
        refine a_lp (σ := Nat × List Int) (fun x => [.i x.1]) (fun x => [⟨z4, (nD (nI rg)).flatten, .row 3 1 n⟩, ⟨z3, (nD x.2).flatten, .row 2 1 p.unk⟩, ⟨z2, w.cs, .box⟩, ⟨z1, p.cs, .box⟩]) (fun x => x.1 ≤ p.ints.length ∧ x.2.length = p.unk ∧ markI p w x.1 (p.ints.drop x.1) x.2 = markI p w 0 p.ints l) (fun x => p.ints.length - x.1) (0, l) (by first | exact Gl.refl _ _ | exact Gl.drop (by repeat (first | exact List.Sublist.refl _ | exact List.Sublist.slnil | apply List.Sublist.cons_cons | apply List.Sublist.cons))) ⟨Nat.zero_le _, hll, rfl⟩ ?_
        generalize hmi : markI p w 0 p.ints l = mi at *
        clear hmi hta hb hll
        rintro ⟨i, l⟩ K ⟨hi, hll, hm⟩ hK
        dsimp only at hi hll hm hK ⊢
        dsimp only [aix0, aix1, aix2, aix3, aix4, aix5, aix6, aix7, aix8]
        (refine a_fld ?_; (apply a_ld1 3; exact rfl; exact rfl); refine a_lenM ?_; refine a_lss ?_)
        refine a_cnd (fun q => ?_) (fun q => ?_)
        · have hil2 : i < p.ints.length := by omega
          rw [List.drop_eq_getElem_cons hil2, markI] at hm
          ((apply a_ldA 2; exact rfl; exact rfl); refine a_fld ?_; (apply a_ld1 3; exact rfl; exact rfl))
          refine a_idxM (f := s1) i hil2 ?_
          have hG := c48 w p.ints[i] 1
          cases hg : getF w.names p.ints[i] 1 with
          | none =>
            rw [hg] at hm
            simp only at hm
            rw [getV0 hg] at hG
            ((apply a_ld1p; exact rfl); refine a_callS0 hG ?_; (apply a_ext; exact rfl); (apply a_ext; exact rfl); refine a_bx fun z5 => ?_; refine a_stA 0 rfl rfl rfl rfl ?_; refine a_not ?_; refine a_cndbT rfl ?_)
            rw [← hm] at hans
            rw [hans]
            exact ge_nil1
          | some v =>
            rw [hg] at hm
            simp only at hm
            have hu : p.reg + i < p.unk := by unfold Pl.unk; omega
            rw [getV hg] at hG
            ((apply a_ld1p; exact rfl); refine a_callS0 hG ?_; (apply a_ext; exact rfl); (apply a_ext; exact rfl); refine a_bx fun z5 => ?_; refine a_stA 0 rfl rfl rfl rfl ?_; refine a_not ?_; refine a_cndbF rfl ?_; (apply a_ldA 4; exact rfl; exact rfl); refine a_callS0 hR ?_; refine a_add (by first | omega | assumption | decide) (by first | omega | assumption | decide) ?_; refine a_fld ?_; (apply a_ld1 0; exact rfl; exact rfl))
            refine a_idxO (j := ((p.reg + i : Nat) : Int)) (by omega) (by omega) ?_
            rw [Int.toNat_natCast]
            refine a_stN 2 (p.reg + i) rfl (by omega) ?_
            (refine a_add (by first | omega | assumption | decide) (by first | omega | assumption | decide) ?_)
            exact hK (i + 1, _) _ _ ⟨by simp only; omega, by rw [List.length_set]; exact hll, hm⟩ (by simp only; omega) (by first | exact Gl.refl _ _ | exact Gl.drop (by repeat (first | exact List.Sublist.refl _ | exact List.Sublist.slnil | apply List.Sublist.cons_cons | apply List.Sublist.cons)))
        · rw [show i = p.ints.length by omega, List.drop_length, markI] at hm
          clear hK
          rw [← hm] at hans
          simp only at hans
          rw [hans]
          refine ge_fz (f := n1) (l := l) (c := p.unk) n1_len 1 rfl ?_ (List.nil_sublist _)
          rw [hll]
          exact .tuple (.cons .hit (.cons (.refl _) .nil))
end Go.Proofs.YtokpeggkofjclaaGreatDoor
