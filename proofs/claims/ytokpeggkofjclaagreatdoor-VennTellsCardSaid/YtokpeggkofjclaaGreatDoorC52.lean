/- The document's answer for layer 13: regions, names' places, right worlds, values. -/
import Derived.Test.YtokpeggkofjclaaGreatDoorC48
import Derived.Test.YtokpeggkofjclaaGreatDoorW17
set_option maxRecDepth 100000
set_option linter.unusedVariables false
namespace Go.V
open Go
theorem getF_cons {x : Nv} {l : List Nv} {nm : ByteArray} {st : Int} : getF (x :: l) nm st = if x.nm = nm ∧ x.v.sort = st then some x.v else getF l nm st := by
  unfold getF
  rw [List.find?_cons]
  by_cases h : x.nm = nm ∧ x.v.sort = st
  · rw [if_pos h, decide_eq_true h.1, decide_eq_true h.2]; rfl
  · rw [if_neg h]
    have hd : (decide (x.nm = nm) && decide (x.v.sort = st)) = false := by
      rw [← Bool.not_eq_true, Bool.and_eq_true, decide_eq_true_eq, decide_eq_true_eq]; exact h
    rw [hd]
end Go.V
namespace Go.Proofs.YtokpeggkofjclaaGreatDoor
open Go Go.V
theorem c58 {r c : Nat} (hr : r ≤ 1000000) (hc : c ≤ 1000000) : AFn pr 58 [.i r, .i c] [] (.ret (.b (inB r c))) := by
  refine AFn.of (s58 ?_)
  unfold A58
  refine a_lp (σ := Nat) (fun i => [.i ((r / 2 ^ i : Nat) : Int), .i i]) (fun _ => []) (fun i => i ≤ c) (fun i => c - i) 0 (by rw [Nat.pow_zero, Nat.div_one]; exact Gl.refl _ _) (Nat.zero_le _) ?_
  rintro i K hi hK
  dsimp only [aix0, aix1, aix2, aix3, aix4, aix5, aix6, aix7, aix8]
  (refine a_lss ?_)
  have hrp : r / 2 ^ i ≤ r := Nat.div_le_self _ _
  refine a_cnd (fun q => ?_) (fun q => ?_)
  · refine a_quo2 (by omega) ?_
    rw [Nat.div_div_eq_div_mul, ← Nat.pow_succ]
    (refine a_add (by first | omega | assumption | decide) (by first | omega | assumption | decide) ?_)
    exact hK (i + 1) _ _ (by omega) (by omega) (by first | exact Gl.refl _ _ | exact Gl.drop (by repeat (first | exact List.Sublist.refl _ | exact List.Sublist.slnil | apply List.Sublist.cons_cons | apply List.Sublist.cons)))
  · rw [show i = c by omega]
    refine a_rem2 ?_
    (refine a_eql ?_)
    refine ret_b ?_
    unfold inB
    exact decide_eq_decide.2 (by omega)
theorem c20 {p : Pl} (h6 : p.circ ≤ 6) : AFn pr 20 [p.d] [] (.ret (.i p.reg)) := by
  refine AFn.of (s20 ?_)
  unfold A20
  have hcc : p.sets.length + p.nodes.length = p.circ := rfl
  have hreg2 : p.reg = 2 ^ p.circ := by unfold Pl.reg; rw [Nat.min_eq_left h6]
  have hpw : ∀ k, k ≤ 6 → 2 ^ k ≤ 64 := fun k hk => Nat.pow_le_pow_right (n := 2) (by omega) hk
  refine a_bxv fun z1 => ?_
  refine a_lp (σ := Nat) (fun i => [.i ((2 ^ i : Nat) : Int), .i i]) (fun _ => [⟨z1, p.cs, .box⟩]) (fun i => i ≤ p.circ) (fun i => p.circ - i) 0 (by first | exact Gl.refl _ _ | exact Gl.drop (by repeat (first | exact List.Sublist.refl _ | exact List.Sublist.slnil | apply List.Sublist.cons_cons | apply List.Sublist.cons))) (Nat.zero_le _) ?_
  rintro i K hi hK
  dsimp only [aix0, aix1, aix2, aix3, aix4, aix5, aix6, aix7, aix8]
  (refine a_fld ?_; (apply a_ld1 0; exact rfl; exact rfl); refine a_lenM ?_; refine a_fld ?_; (apply a_ld1 0; exact rfl; exact rfl); refine a_lenM ?_; refine a_add (by first | omega | assumption | decide) (by first | omega | assumption | decide) ?_; refine a_lss ?_)
  refine a_cnd (fun q => ?_) (fun q => ?_)
  · have h64 := hpw (i + 1) (by omega)
    have hp2 : 2 ^ (i + 1) = 2 ^ i * 2 := Nat.pow_succ ..
    have e1 : (2 : Int) * ((2 ^ i : Nat) : Int) = ((2 ^ (i + 1) : Nat) : Int) := by omega
    refine a_mul (by omega) (by omega) ?_
    rw [e1]
    (refine a_add (by first | omega | assumption | decide) (by first | omega | assumption | decide) ?_)
    exact hK (i + 1) _ _ (by omega) (by omega) (by first | exact Gl.refl _ _ | exact Gl.drop (by repeat (first | exact List.Sublist.refl _ | exact List.Sublist.slnil | apply List.Sublist.cons_cons | apply List.Sublist.cons)))
  · rw [show i = p.circ by omega, ← hreg2]
theorem c22 {p : Pl} (h6 : p.circ ≤ 6) (hi : p.ints.length ≤ 1000000) : AFn pr 22 [p.d] [] (.ret (.i p.unk)) := by
  refine AFn.of (s22 ?_)
  unfold A22
  refine a_bxv fun z1 => ?_
  have := p.reg_pos
  ((apply a_ldA 0; exact rfl; exact rfl); refine a_callS0 (c20 (by first | omega | assumption | decide)) ?_; refine a_fld ?_; (apply a_ld1 0; exact rfl; exact rfl); refine a_lenM ?_; refine a_add (by first | omega | assumption | decide) (by first | omega | assumption | decide) ?_)
  refine ret_i ?_
  unfold Pl.unk; omega
theorem c92 (l : List ByteArray) (s : ByteArray) (hl : l.length ≤ 1000000) : AFn pr 92 [.row 1 (sD l), .s s] [] (.ret (.i (atS s l 0))) := by
  refine AFn.of (s92 ?_)
  unfold A92 sD
  refine a_lp (σ := Nat) (fun i => [.i i]) (fun _ => []) (fun i => i ≤ l.length ∧ atS s (l.drop i) i = atS s l 0) (fun i => l.length - i) 0 (by first | exact Gl.refl _ _ | exact Gl.drop (by repeat (first | exact List.Sublist.refl _ | exact List.Sublist.slnil | apply List.Sublist.cons_cons | apply List.Sublist.cons))) ⟨Nat.zero_le _, rfl⟩ ?_
  rintro i K ⟨hi, hp⟩ hK
  dsimp only [aix0, aix1, aix2, aix3, aix4, aix5, aix6, aix7, aix8]
  (refine a_lenM ?_; refine a_lss ?_)
  refine a_cnd (fun q => ?_) (fun q => ?_)
  · have hlt : i < l.length := by omega
    rw [List.drop_eq_getElem_cons hlt, atS] at hp
    refine a_idxM i hlt ?_
    ((apply a_ld1p; exact rfl); refine a_eqlS ?_)
    refine a_cnd (fun q2 => ?_) (fun q2 => ?_)
    · rw [if_pos q2] at hp
      exact ret_i hp
    · rw [if_neg q2] at hp
      (refine a_add (by first | omega | assumption | decide) (by first | omega | assumption | decide) ?_)
      exact hK (i + 1) _ _ ⟨by omega, hp⟩ (by omega) (by first | exact Gl.refl _ _ | exact Gl.drop (by repeat (first | exact List.Sublist.refl _ | exact List.Sublist.slnil | apply List.Sublist.cons_cons | apply List.Sublist.cons)))
  · rw [List.drop_eq_nil_of_le (by omega), atS] at hp
    exact ret_i hp
theorem c59 (n : Int) : AFn pr 59 [.i n] [] (.ret (Vl.mk 1 n false []).d) := by
  refine AFn.ofGe (s59 ?_)
  unfold A59
  (refine a_bx fun z1 => ?_; refine a_bldV0 rfl rfl ?_; refine a_stA 0 rfl rfl rfl rfl ?_; (apply a_ldA 0; exact rfl; exact rfl))
  exact ge_drop _ _
theorem c99 (v : Vl) (n : Int) : AFn pr 99 [v.d, .i n] [] (.ret (.b (isF v n))) := by
  refine AFn.of (s99 ?_)
  unfold A99
  refine a_bxv fun z1 => ?_
  obtain ⟨so, m, b, s⟩ := v
  (refine a_fld ?_; (apply a_ld1 0; exact rfl; exact rfl); refine a_eql ?_)
  refine a_cnd (fun q1 => ?_) (fun q1 => ?_)
  · have q1 : so = 1 := q1
    subst q1
    (refine a_fld ?_; (apply a_ld1 0; exact rfl; exact rfl); refine a_not ?_)
    cases b with
    | true => (refine a_cndbF rfl ?_); exact ret_b (by unfold isF; simp)
    | false => (refine a_cndbT rfl ?_; refine a_fld ?_; (apply a_ld1 0; exact rfl; exact rfl); refine a_lenM ?_; refine a_eql ?_); exact ret_b (by unfold isF; simp)
  (refine a_eql ?_)
  refine a_cnd (fun q4 => ?_) (fun q4 => ?_)
  · have q4 : so = 4 := q4
    subst q4
    (refine a_fld ?_; (apply a_ld1 0; exact rfl; exact rfl); refine a_eql ?_)
    refine a_cnd (fun q => ?_) (fun q => ?_)
    · have q : m = 0 := q
      subst q
      (refine a_fld ?_; (apply a_ld1 0; exact rfl; exact rfl); refine a_lenM ?_; refine a_eql ?_)
      exact ret_b (by unfold isF; simp)
    · have q : ¬ m = 0 := q
      exact ret_b (by unfold isF; simp [q])
  (refine a_eql ?_)
  refine a_cnd (fun q2 => ?_) (fun q2 => ?_)
  · have q2 : so = 2 := q2
    subst q2
    (refine a_fld ?_; (apply a_ld1 0; exact rfl; exact rfl); refine a_eql ?_)
    refine a_cnd (fun q => ?_) (fun q => ?_)
    · have q : m = 0 := q
      subst q
      (refine a_fld ?_; (apply a_ld1 0; exact rfl; exact rfl); refine a_not ?_)
      cases b with
      | true => (refine a_cndbF rfl ?_); exact ret_b (by unfold isF; simp)
      | false => (refine a_cndbT rfl ?_; refine a_fld ?_; (apply a_ld1 0; exact rfl; exact rfl); refine a_lenM ?_; refine a_eql ?_); exact ret_b (by unfold isF; simp)
    · have q : ¬ m = 0 := q
      exact ret_b (by unfold isF; simp [q])
  (refine a_eql ?_)
  refine a_cnd (fun q3 => ?_) (fun q3 => ?_)
  · have q3 : so = 3 := q3
    subst q3
    (refine a_fld ?_; (apply a_ld1 0; exact rfl; exact rfl); refine a_geq ?_)
    refine a_cnd (fun q => ?_) (fun q => ?_)
    · have q : 0 ≤ m := q
      (refine a_fld ?_; (apply a_ld1 0; exact rfl; exact rfl); refine a_lss ?_)
      refine a_cnd (fun q' => ?_) (fun q' => ?_)
      · have q' : m < n := q'
        (refine a_fld ?_; (apply a_ld1 0; exact rfl; exact rfl); refine a_not ?_)
        cases b with
        | true => (refine a_cndbF rfl ?_); exact ret_b (by unfold isF; simp)
        | false => (refine a_cndbT rfl ?_; refine a_fld ?_; (apply a_ld1 0; exact rfl; exact rfl); refine a_lenM ?_; refine a_eql ?_); exact ret_b (by unfold isF; simp [q, q'])
      · have q' : ¬ m < n := q'
        exact ret_b (by unfold isF; simp [q'])
    · have q : ¬ 0 ≤ m := q
      exact ret_b (by unfold isF; simp [q])
  · have q1 : ¬ so = 1 := q1
    have q2 : ¬ so = 2 := q2
    have q3 : ¬ so = 3 := q3
    have q4 : ¬ so = 4 := q4
    exact ret_b (by unfold isF; simp [q1, q2, q3, q4])
theorem c48 (w : Wd) (nm : ByteArray) (st : Int) : AFn pr 48 [w.d, .s nm, .i st] [] (.ret (getD' w.names nm st)) := by
  refine AFn.small fun hs => AFn.ofGe (s48 ?_)
  rw [Smalls] at hs
  obtain ⟨hn, hl, hx⟩ := Wd.small hs.1
  unfold A48
  refine a_bxv fun z1 => ?_
  refine a_bx fun z2 => ?_
  refine a_lp (σ := Nat) (fun i => [.i i]) (fun _ => [⟨z2, [.i 0, .i 0, .b false, .nil], .box⟩, ⟨z1, w.cs, .box⟩]) (fun i => i ≤ w.names.length ∧ getF (w.names.drop i) nm st = getF w.names nm st) (fun i => w.names.length - i) 0 (by first | exact Gl.refl _ _ | exact Gl.drop (by repeat (first | exact List.Sublist.refl _ | exact List.Sublist.slnil | apply List.Sublist.cons_cons | apply List.Sublist.cons))) ⟨Nat.zero_le _, rfl⟩ ?_
  rintro i K ⟨hi, hg⟩ hK
  dsimp only [aix0, aix1, aix2, aix3, aix4, aix5, aix6, aix7, aix8]
  (refine a_fld ?_; (apply a_ld1 1; exact rfl; exact rfl); refine a_lenM ?_; refine a_lss ?_)
  refine a_cnd (fun q => ?_) (fun q => ?_)
  · have hlt : i < w.names.length := by omega
    rw [List.drop_eq_getElem_cons hlt, getF_cons] at hg
    refine a_jn (σ := Bool) (fun c => [.b c]) (fun _ => [⟨z2, [.i 0, .i 0, .b false, .nil], .box⟩, ⟨z1, w.cs, .box⟩]) (fun c => c = decide (w.names[i].nm = nm ∧ w.names[i].v.sort = st)) ?_ fun J hJ => ?_
    · rintro c hc
      dsimp only [aix0, aix1, aix2, aix3, aix4, aix5, aix6, aix7, aix8]
      cases c with
      | true =>
        rw [if_pos (by simpa using hc.symm)] at hg
        (refine a_cndbT rfl ?_; refine a_fld ?_; (apply a_ld1 1; exact rfl; exact rfl))
        refine a_idxM i hlt ?_
        (refine a_fldp ?_; (apply a_ldAp; exact rfl); refine a_stA 0 rfl rfl rfl rfl ?_; (apply a_ldA 0; exact rfl; exact rfl))
        rw [getV hg.symm]
        exact ge_drop _ _
      | false =>
        rw [if_neg (by simpa using hc.symm)] at hg
        (refine a_cndbF rfl ?_; refine a_add (by first | omega | assumption | decide) (by first | omega | assumption | decide) ?_)
        exact hK (i + 1) _ _ ⟨by omega, hg⟩ (by omega) (by first | exact Gl.refl _ _ | exact Gl.drop (by repeat (first | exact List.Sublist.refl _ | exact List.Sublist.slnil | apply List.Sublist.cons_cons | apply List.Sublist.cons)))
    · (refine a_fld ?_; (apply a_ld1 1; exact rfl; exact rfl))
      refine a_idxM i hlt ?_
      (refine a_fldp ?_; (apply a_ld1p; exact rfl); refine a_eqlS ?_)
      refine a_cnd (fun q2 => ?_) (fun q2 => ?_)
      · (refine a_fld ?_; (apply a_ld1 1; exact rfl; exact rfl))
        refine a_idxM i hlt ?_
        (refine a_fldp ?_; refine a_fldp ?_; (apply a_ld1p; exact rfl); refine a_eql ?_)
        exact hJ _ _ _ (by have q2 : w.names[i].nm = nm := q2; simp [q2]) (Gl.refl _ _)
      · skip
        exact hJ false _ _ (by have q2 : ¬ w.names[i].nm = nm := q2; simp [q2]) (Gl.refl _ _)
  · rw [List.drop_eq_nil_of_le (by omega)] at hg
    clear hK
    (refine a_bldV0 rfl rfl ?_; refine a_stA 0 rfl rfl rfl rfl ?_; (apply a_ldA 0; exact rfl; exact rfl))
    rw [getV0 hg.symm]
    exact ge_drop _ _
theorem metB_snoc (x : Nv) (l : List Nv) (y : Nv) : metB x (l ++ [y]) = (metB x l || (decide (y.nm = x.nm) && decide (y.v.sort = x.v.sort))) := by unfold metB; rw [List.any_append]; simp
theorem c47 (w : Wd) : AFn pr 47 [w.d] [] (.ret (.b (rightW w))) := by
  refine AFn.small fun hs => AFn.of (s47 ?_)
  rw [Smalls] at hs
  obtain ⟨hn, hl, hx⟩ := Wd.small hs.1
  unfold A47
  refine a_bxv fun z1 => ?_
  refine a_jn (σ := Unit) (fun _ => []) (fun _ => [⟨z1, w.cs, .box⟩]) (fun _ => 1 ≤ w.nodes ∧ w.nodes ≤ 64 ∧ w.names.length ≤ 64) ?_ fun J hJ => ?_
  · rintro _ ⟨h1, h2, h3⟩
    refine a_lp (σ := Nat) (fun i => [.i i]) (fun _ => [⟨z1, w.cs, .box⟩]) (fun i => i ≤ w.names.length ∧ rightLW w.nodes (w.names.take i) (w.names.drop i) = rightLW w.nodes [] w.names) (fun i => w.names.length - i) 0 (by first | exact Gl.refl _ _ | exact Gl.drop (by repeat (first | exact List.Sublist.refl _ | exact List.Sublist.slnil | apply List.Sublist.cons_cons | apply List.Sublist.cons))) ⟨Nat.zero_le _, rfl⟩ ?_
    rintro i K ⟨hi, hd⟩ hK
    dsimp only [aix0, aix1, aix2, aix3, aix4, aix5, aix6, aix7, aix8]
    (refine a_fld ?_; (apply a_ld1 0; exact rfl; exact rfl); refine a_lenM ?_; refine a_lss ?_)
    refine a_cnd (fun q => ?_) (fun q => ?_)
    · have hi1 : i < w.names.length := by omega
      rw [List.drop_eq_getElem_cons hi1, rightLW] at hd
      have hfalse : (nameF w.names[i].nm.data.toList && isF w.names[i].v w.nodes && !metB w.names[i] (w.names.take i)) = false → AE.ret (.b false) = AE.ret (.b (rightW w)) := fun h => by
        rw [h, Bool.false_and] at hd
        exact ret_b (by rw [rightW, ← hd, Bool.and_false])
      (refine a_fld ?_; (apply a_ld1 0; exact rfl; exact rfl))
      refine a_idxM i hi1 ?_
      (refine a_fldp ?_; (apply a_ldAp; exact rfl); refine a_bx fun z2 => ?_; refine a_stA 0 rfl rfl rfl rfl ?_; refine a_fld ?_; (apply a_ld1 1; exact rfl; exact rfl))
      refine a_idxM i hi1 ?_
      (refine a_call0 c98 ?_)
      refine a_jn (σ := Unit) (fun _ => []) (fun _ => [⟨z2, w.names[i].v.cs, .box⟩, ⟨z1, w.cs, .box⟩]) (fun _ => nameF w.names[i].nm.data.toList = true ∧ isF w.names[i].v w.nodes = true) ?_ fun J2 hJ2 => ?_
      · rintro _ ⟨g1, g2⟩
        refine a_lp (σ := Nat) (fun k => [.i k]) (fun _ => [⟨z2, w.names[i].v.cs, .box⟩, ⟨z1, w.cs, .box⟩]) (fun k => k ≤ i ∧ metB w.names[i] (w.names.take k) = false) (fun k => i - k) 0 (by first | exact Gl.refl _ _ | exact Gl.drop (by repeat (first | exact List.Sublist.refl _ | exact List.Sublist.slnil | apply List.Sublist.cons_cons | apply List.Sublist.cons))) ⟨Nat.zero_le _, rfl⟩ ?_
        rintro k K2 ⟨hk, hm⟩ hK2
        dsimp only [aix0, aix1, aix2, aix3, aix4, aix5, aix6, aix7, aix8]
        (refine a_lss ?_)
        refine a_cnd (fun q2 => ?_) (fun q2 => ?_)
        · have hk1 : k < w.names.length := by omega
          have hst := metB_snoc w.names[i] (w.names.take k) w.names[k]
          rw [← List.take_succ_eq_append_getElem hk1, hm, Bool.false_or] at hst
          (refine a_fld ?_; (apply a_ld1 1; exact rfl; exact rfl))
          refine a_idxM k hk1 ?_
          (refine a_fldp ?_; (apply a_ld1 1; exact rfl; exact rfl))
          refine a_idxM i hi1 ?_
          (refine a_fldp ?_; (apply a_ld1p; exact rfl); refine a_eqlS ?_)
          refine a_cnd (fun q3 => ?_) (fun q3 => ?_)
          · have q3 : w.names[k].nm = w.names[i].nm := q3
            (refine a_fld ?_; (apply a_ld1 1; exact rfl; exact rfl))
            refine a_idxM k hk1 ?_
            (refine a_fldp ?_; refine a_fldp ?_; (apply a_ld1 0; exact rfl; exact rfl); refine a_eql ?_)
            refine a_cnd (fun q4 => ?_) (fun q4 => ?_)
            · have q4 : w.names[k].v.sort = w.names[i].v.sort := q4
              rw [decide_eq_true q3, decide_eq_true q4] at hst
              obtain ⟨y, hy, e1⟩ := metB_iff.1 hst
              refine hfalse ?_
              rw [metB_iff.2 ⟨y, List.take_subset_take_left _ (by omega : k + 1 ≤ i) hy, e1⟩]; simp
            · have q4 : ¬ w.names[k].v.sort = w.names[i].v.sort := q4
              rw [decide_eq_false q4, Bool.and_false] at hst
              (refine a_add (by first | omega | assumption | decide) (by first | omega | assumption | decide) ?_)
              exact hK2 (k + 1) _ _ ⟨by omega, hst⟩ (by omega) (by first | exact Gl.refl _ _ | exact Gl.drop (by repeat (first | exact List.Sublist.refl _ | exact List.Sublist.slnil | apply List.Sublist.cons_cons | apply List.Sublist.cons)))
          · have q3 : ¬ w.names[k].nm = w.names[i].nm := q3
            rw [decide_eq_false q3, Bool.false_and] at hst
            (refine a_add (by first | omega | assumption | decide) (by first | omega | assumption | decide) ?_)
            exact hK2 (k + 1) _ _ ⟨by omega, hst⟩ (by omega) (by first | exact Gl.refl _ _ | exact Gl.drop (by repeat (first | exact List.Sublist.refl _ | exact List.Sublist.slnil | apply List.Sublist.cons_cons | apply List.Sublist.cons)))
        · rw [show k = i by omega] at hm
          clear hK2
          (refine a_add (by first | omega | assumption | decide) (by first | omega | assumption | decide) ?_)
          refine hK (i + 1) _ _ ⟨by omega, ?_⟩ (by omega) (by first | exact Gl.refl _ _ | exact Gl.drop (by repeat (first | exact List.Sublist.refl _ | exact List.Sublist.slnil | apply List.Sublist.cons_cons | apply List.Sublist.cons)))
          rw [g1, g2, hm, Bool.true_and, Bool.not_false, Bool.true_and, Bool.true_and] at hd
          rw [List.take_succ_eq_append_getElem hi1]
          exact hd
      · cases g1 : nameF w.names[i].nm.data.toList with
        | false =>
          (refine a_not ?_; refine a_cndbT rfl ?_)
          exact hfalse (by rw [g1]; rfl)
        | true =>
          (refine a_not ?_; refine a_cndbF rfl ?_; (apply a_ldA 0; exact rfl; exact rfl); refine a_fld ?_; (apply a_ld1 1; exact rfl; exact rfl); refine a_call0 (c99 w.names[i].v w.nodes) ?_; refine a_not ?_)
          cases g2 : isF w.names[i].v w.nodes with
          | false =>
            (refine a_cndbT rfl ?_)
            exact hfalse (by rw [g2, Bool.and_false]; rfl)
          | true =>
            (refine a_cndbF rfl ?_)
            exact hJ2 () _ _ ⟨g1, g2⟩ (by first | exact Gl.refl _ _ | exact Gl.drop (by repeat (first | exact List.Sublist.refl _ | exact List.Sublist.slnil | apply List.Sublist.cons_cons | apply List.Sublist.cons)))
    · rw [List.drop_eq_nil_of_le (by omega), rightLW] at hd
      exact ret_b (by rw [rightW, ← hd, decide_eq_true h1, decide_eq_true h2, decide_eq_true h3]; rfl)
  · (refine a_fld ?_; (apply a_ld1 0; exact rfl; exact rfl); refine a_lss ?_)
    refine a_cnd (fun q => ?_) (fun q => ?_)
    · exact ret_b (by rw [rightW, decide_eq_false (by omega : ¬ 1 ≤ w.nodes)]; rfl)
    (refine a_fld ?_; (apply a_ld1 0; exact rfl; exact rfl); refine a_gtr ?_)
    refine a_cnd (fun q2 => ?_) (fun q2 => ?_)
    · exact ret_b (by rw [rightW, decide_eq_false (by omega : ¬ w.nodes ≤ 64), Bool.and_false]; rfl)
    (refine a_fld ?_; (apply a_ld1 0; exact rfl; exact rfl); refine a_lenM ?_; refine a_gtr ?_)
    refine a_cnd (fun q3 => ?_) (fun q3 => ?_)
    · exact ret_b (by rw [rightW, decide_eq_false (by omega : ¬ w.names.length ≤ 64), Bool.and_false]; rfl)
    exact hJ () _ _ ⟨by omega, by omega, by omega⟩ (by first | exact Gl.refl _ _ | exact Gl.drop (by repeat (first | exact List.Sublist.refl _ | exact List.Sublist.slnil | apply List.Sublist.cons_cons | apply List.Sublist.cons)))
end Go.Proofs.YtokpeggkofjclaaGreatDoor
/- The document's answer for layer 13: sets, rows. -/
set_option maxRecDepth 100000
set_option linter.unusedVariables false
namespace Go.V
open Go
def rwJ : Except Int Rw → Rw × Int
  | .ok r => (r, 0)
  | .error e => (⟨[], 0⟩, e)
theorem RowF_rw (p : Pl) (t : Tm) (holds : Bool) : RowF p t holds = if (sortF t).2 ≠ 0 ∨ t.op ≠ 22 then (⟨[], 0⟩, 1) else
    match lineE p (t.at 0) with
    | .error e => (⟨[], 0⟩, e)
    | .ok a => match lineE p (t.at 1) with
      | .error e => (⟨[], 0⟩, e)
      | .ok b => rwJ (if holds then joinE subJ a b else (joinE subJ b a).bind fun c => joinE addJ c (rowF p 0 1 fun _ => false)) := by
  unfold RowF
  split
  · rfl
  · cases lineE p (t.at 0) with
    | error e => rfl
    | ok a =>
      cases lineE p (t.at 1) with
      | error e => rfl
      | ok b =>
        simp only
        cases (if holds then joinE subJ a b else (joinE subJ b a).bind fun c => joinE addJ c (rowF p 0 1 fun _ => false)) <;> rfl
theorem plc_cast {l : List ByteArray} {s : ByteArray} (h : ¬ atS s l 0 < 0) : atS s l 0 = ((plcN l s : Nat) : Int) := by unfold plcN; omega
end Go.V
namespace Go.Proofs.YtokpeggkofjclaaGreatDoor
open Go Go.V
theorem c93 {p : Pl} (hp : p.Ok) {r : Nat} (hr : r ≤ 63) (t : Tm) : rightT t 2 = true → AFn pr 93 [p.d, t.d, .i r] [] (.ret (.tuple [.b (if badS p t then false else regT p t r), .i (if badS p t then 4 else 0)])) := by
  induction t using Tm.ind' with
  | h t ih =>
    intro h
    have ho := right_set h
    have hcirc := hp.circ
    have hcc : p.sets.length + p.nodes.length = p.circ := rfl
    refine AFn.of (s93 ?_)
    unfold A93
    refine a_bxv fun z1 => ?_
    refine a_bxv fun z2 => ?_
    cases t with | mk op nm n a =>
    simp only [Tm.op] at ho
    refine a_jn (σ := Unit) (fun _ => []) (fun _ => [⟨z2, (Tm.mk op nm n a).cs, .box⟩, ⟨z1, p.cs, .box⟩]) (fun _ => op = 11 ∨ op = 12 ∨ op = 13) ?_ fun J hJ => ?_
    · rintro _ hh
      obtain ⟨x, y, rfl, hx, hy⟩ := right2 h (s1 := 2) (s2 := 2) (by rcases hh with e | e | e <;> rw [e] <;> rfl) (by rcases hh with e | e | e <;> rw [e] <;> rfl)
      have ihx := ih x (by simp [Tm.a]) hx
      have ihy := ih y (by simp [Tm.a]) hy
      have hb : badS p (.mk op nm n [x, y]) = (badS p x || badS p y) := by rw [badS, if_neg (by omega), if_neg (by omega), if_neg (by omega), badSL, badSL, badSL, Bool.or_false]
      have hg : regT p (.mk op nm n [x, y]) r = combS op (regT p x r) (regT p y r) := by
        rw [regT, if_neg (by omega), if_neg (by omega), if_neg (by omega), regL, regL, regL]
      clear ih
      rw [hb, hg]
      ((apply a_ldA 1; exact rfl; exact rfl); refine a_fld ?_; (apply a_ld1 0; exact rfl; exact rfl); refine a_idxT0 ?_; (apply a_ldAp; exact rfl))
      cases bx : badS p x with
      | true =>
        rw [bx] at ihx
        refine a_callS0 ihx ?_
        ((apply a_ext; exact rfl); (apply a_ext; exact rfl); refine a_neq ?_; refine a_cndbT rfl ?_)
        rfl
      | false =>
        rw [bx] at ihx
        refine a_callS0 ihx ?_
        ((apply a_ext; exact rfl); (apply a_ext; exact rfl); refine a_neq ?_; refine a_cndbF rfl ?_; (apply a_ldA 1; exact rfl; exact rfl); refine a_fld ?_; (apply a_ld1 0; exact rfl; exact rfl); refine a_idxT1 ?_; (apply a_ldAp; exact rfl))
        cases bY : badS p y with
        | true =>
          rw [bY] at ihy
          refine a_callS0 ihy ?_
          ((apply a_ext; exact rfl); (apply a_ext; exact rfl); refine a_neq ?_; refine a_cndbT rfl ?_)
          rfl
        | false =>
          rw [bY] at ihy
          refine a_callS0 ihy ?_
          generalize regT p x r = u
          generalize regT p y r = v
          rcases hh with rfl | rfl | rfl
          · cases u
            · cases v
              · ((apply a_ext; exact rfl); (apply a_ext; exact rfl); refine a_neq ?_; refine a_cndbF rfl ?_; refine a_fld ?_; (apply a_ld1 0; exact rfl; exact rfl); refine a_eql ?_; (apply a_jnX; intro J hJ); refine a_cndbT rfl ?_; (apply a_jnX; intro J hJ); refine a_cndbF rfl ?_; exact hJ; dsimp only [aix0, aix1, aix2, aix3, aix4, aix5, aix6, aix7, aix8]; exact hJ; dsimp only [aix0, aix1, aix2, aix3, aix4, aix5, aix6, aix7, aix8]; refine a_cndbF rfl ?_; refine a_fld ?_; (apply a_ld1 0; exact rfl; exact rfl); refine a_eql ?_; refine a_cndbF rfl ?_; (apply a_jnX; intro J hJ); exact hJ; dsimp only [aix0, aix1, aix2, aix3, aix4, aix5, aix6, aix7, aix8]; refine a_cndbF rfl ?_; refine a_fld ?_; (apply a_ld1 0; exact rfl; exact rfl); refine a_eql ?_; refine a_cndbF rfl ?_; (apply a_jnX; intro J hJ); exact hJ; dsimp only [aix0, aix1, aix2, aix3, aix4, aix5, aix6, aix7, aix8])
                rfl
              · ((apply a_ext; exact rfl); (apply a_ext; exact rfl); refine a_neq ?_; refine a_cndbF rfl ?_; refine a_fld ?_; (apply a_ld1 0; exact rfl; exact rfl); refine a_eql ?_; (apply a_jnX; intro J hJ); refine a_cndbT rfl ?_; (apply a_jnX; intro J hJ); refine a_cndbF rfl ?_; exact hJ; dsimp only [aix0, aix1, aix2, aix3, aix4, aix5, aix6, aix7, aix8]; exact hJ; dsimp only [aix0, aix1, aix2, aix3, aix4, aix5, aix6, aix7, aix8]; refine a_cndbT rfl ?_)
                rfl
            · cases v
              · ((apply a_ext; exact rfl); (apply a_ext; exact rfl); refine a_neq ?_; refine a_cndbF rfl ?_; refine a_fld ?_; (apply a_ld1 0; exact rfl; exact rfl); refine a_eql ?_; (apply a_jnX; intro J hJ); refine a_cndbT rfl ?_; (apply a_jnX; intro J hJ); refine a_cndbT rfl ?_; exact hJ; dsimp only [aix0, aix1, aix2, aix3, aix4, aix5, aix6, aix7, aix8]; exact hJ; dsimp only [aix0, aix1, aix2, aix3, aix4, aix5, aix6, aix7, aix8]; refine a_cndbT rfl ?_)
                rfl
              · ((apply a_ext; exact rfl); (apply a_ext; exact rfl); refine a_neq ?_; refine a_cndbF rfl ?_; refine a_fld ?_; (apply a_ld1 0; exact rfl; exact rfl); refine a_eql ?_; (apply a_jnX; intro J hJ); refine a_cndbT rfl ?_; (apply a_jnX; intro J hJ); refine a_cndbT rfl ?_; exact hJ; dsimp only [aix0, aix1, aix2, aix3, aix4, aix5, aix6, aix7, aix8]; exact hJ; dsimp only [aix0, aix1, aix2, aix3, aix4, aix5, aix6, aix7, aix8]; refine a_cndbT rfl ?_)
                rfl
          · cases u
            · cases v
              · ((apply a_ext; exact rfl); (apply a_ext; exact rfl); refine a_neq ?_; refine a_cndbF rfl ?_; refine a_fld ?_; (apply a_ld1 0; exact rfl; exact rfl); refine a_eql ?_; (apply a_jnX; intro J hJ); refine a_cndbF rfl ?_; exact hJ; dsimp only [aix0, aix1, aix2, aix3, aix4, aix5, aix6, aix7, aix8]; refine a_cndbF rfl ?_; refine a_fld ?_; (apply a_ld1 0; exact rfl; exact rfl); refine a_eql ?_; refine a_cndbT rfl ?_; (apply a_jnX; intro J hJ); refine a_cndbF rfl ?_; exact hJ; dsimp only [aix0, aix1, aix2, aix3, aix4, aix5, aix6, aix7, aix8]; refine a_cndbF rfl ?_; refine a_fld ?_; (apply a_ld1 0; exact rfl; exact rfl); refine a_eql ?_; refine a_cndbF rfl ?_; (apply a_jnX; intro J hJ); exact hJ; dsimp only [aix0, aix1, aix2, aix3, aix4, aix5, aix6, aix7, aix8])
                rfl
              · ((apply a_ext; exact rfl); (apply a_ext; exact rfl); refine a_neq ?_; refine a_cndbF rfl ?_; refine a_fld ?_; (apply a_ld1 0; exact rfl; exact rfl); refine a_eql ?_; (apply a_jnX; intro J hJ); refine a_cndbF rfl ?_; exact hJ; dsimp only [aix0, aix1, aix2, aix3, aix4, aix5, aix6, aix7, aix8]; refine a_cndbF rfl ?_; refine a_fld ?_; (apply a_ld1 0; exact rfl; exact rfl); refine a_eql ?_; refine a_cndbT rfl ?_; (apply a_jnX; intro J hJ); refine a_cndbF rfl ?_; exact hJ; dsimp only [aix0, aix1, aix2, aix3, aix4, aix5, aix6, aix7, aix8]; refine a_cndbF rfl ?_; refine a_fld ?_; (apply a_ld1 0; exact rfl; exact rfl); refine a_eql ?_; refine a_cndbF rfl ?_; (apply a_jnX; intro J hJ); exact hJ; dsimp only [aix0, aix1, aix2, aix3, aix4, aix5, aix6, aix7, aix8])
                rfl
            · cases v
              · ((apply a_ext; exact rfl); (apply a_ext; exact rfl); refine a_neq ?_; refine a_cndbF rfl ?_; refine a_fld ?_; (apply a_ld1 0; exact rfl; exact rfl); refine a_eql ?_; (apply a_jnX; intro J hJ); refine a_cndbF rfl ?_; exact hJ; dsimp only [aix0, aix1, aix2, aix3, aix4, aix5, aix6, aix7, aix8]; refine a_cndbF rfl ?_; refine a_fld ?_; (apply a_ld1 0; exact rfl; exact rfl); refine a_eql ?_; refine a_cndbT rfl ?_; (apply a_jnX; intro J hJ); refine a_cndbT rfl ?_; exact hJ; dsimp only [aix0, aix1, aix2, aix3, aix4, aix5, aix6, aix7, aix8]; refine a_cndbF rfl ?_; refine a_fld ?_; (apply a_ld1 0; exact rfl; exact rfl); refine a_eql ?_; refine a_cndbF rfl ?_; (apply a_jnX; intro J hJ); exact hJ; dsimp only [aix0, aix1, aix2, aix3, aix4, aix5, aix6, aix7, aix8])
                rfl
              · ((apply a_ext; exact rfl); (apply a_ext; exact rfl); refine a_neq ?_; refine a_cndbF rfl ?_; refine a_fld ?_; (apply a_ld1 0; exact rfl; exact rfl); refine a_eql ?_; (apply a_jnX; intro J hJ); refine a_cndbF rfl ?_; exact hJ; dsimp only [aix0, aix1, aix2, aix3, aix4, aix5, aix6, aix7, aix8]; refine a_cndbF rfl ?_; refine a_fld ?_; (apply a_ld1 0; exact rfl; exact rfl); refine a_eql ?_; refine a_cndbT rfl ?_; (apply a_jnX; intro J hJ); refine a_cndbT rfl ?_; exact hJ; dsimp only [aix0, aix1, aix2, aix3, aix4, aix5, aix6, aix7, aix8]; refine a_cndbT rfl ?_)
                rfl
          · cases u
            · cases v
              · ((apply a_ext; exact rfl); (apply a_ext; exact rfl); refine a_neq ?_; refine a_cndbF rfl ?_; refine a_fld ?_; (apply a_ld1 0; exact rfl; exact rfl); refine a_eql ?_; (apply a_jnX; intro J hJ); refine a_cndbF rfl ?_; exact hJ; dsimp only [aix0, aix1, aix2, aix3, aix4, aix5, aix6, aix7, aix8]; refine a_cndbF rfl ?_; refine a_fld ?_; (apply a_ld1 0; exact rfl; exact rfl); refine a_eql ?_; refine a_cndbF rfl ?_; (apply a_jnX; intro J hJ); exact hJ; dsimp only [aix0, aix1, aix2, aix3, aix4, aix5, aix6, aix7, aix8]; refine a_cndbF rfl ?_; refine a_fld ?_; (apply a_ld1 0; exact rfl; exact rfl); refine a_eql ?_; refine a_cndbT rfl ?_; (apply a_jnX; intro J hJ); refine a_cndbF rfl ?_; exact hJ; dsimp only [aix0, aix1, aix2, aix3, aix4, aix5, aix6, aix7, aix8])
                rfl
              · ((apply a_ext; exact rfl); (apply a_ext; exact rfl); refine a_neq ?_; refine a_cndbF rfl ?_; refine a_fld ?_; (apply a_ld1 0; exact rfl; exact rfl); refine a_eql ?_; (apply a_jnX; intro J hJ); refine a_cndbF rfl ?_; exact hJ; dsimp only [aix0, aix1, aix2, aix3, aix4, aix5, aix6, aix7, aix8]; refine a_cndbF rfl ?_; refine a_fld ?_; (apply a_ld1 0; exact rfl; exact rfl); refine a_eql ?_; refine a_cndbF rfl ?_; (apply a_jnX; intro J hJ); exact hJ; dsimp only [aix0, aix1, aix2, aix3, aix4, aix5, aix6, aix7, aix8]; refine a_cndbF rfl ?_; refine a_fld ?_; (apply a_ld1 0; exact rfl; exact rfl); refine a_eql ?_; refine a_cndbT rfl ?_; (apply a_jnX; intro J hJ); refine a_cndbF rfl ?_; exact hJ; dsimp only [aix0, aix1, aix2, aix3, aix4, aix5, aix6, aix7, aix8])
                rfl
            · cases v
              · ((apply a_ext; exact rfl); (apply a_ext; exact rfl); refine a_neq ?_; refine a_cndbF rfl ?_; refine a_fld ?_; (apply a_ld1 0; exact rfl; exact rfl); refine a_eql ?_; (apply a_jnX; intro J hJ); refine a_cndbF rfl ?_; exact hJ; dsimp only [aix0, aix1, aix2, aix3, aix4, aix5, aix6, aix7, aix8]; refine a_cndbF rfl ?_; refine a_fld ?_; (apply a_ld1 0; exact rfl; exact rfl); refine a_eql ?_; refine a_cndbF rfl ?_; (apply a_jnX; intro J hJ); exact hJ; dsimp only [aix0, aix1, aix2, aix3, aix4, aix5, aix6, aix7, aix8]; refine a_cndbF rfl ?_; refine a_fld ?_; (apply a_ld1 0; exact rfl; exact rfl); refine a_eql ?_; refine a_cndbT rfl ?_; (apply a_jnX; intro J hJ); refine a_cndbT rfl ?_; refine a_not ?_; exact hJ; dsimp only [aix0, aix1, aix2, aix3, aix4, aix5, aix6, aix7, aix8])
                rfl
              · ((apply a_ext; exact rfl); (apply a_ext; exact rfl); refine a_neq ?_; refine a_cndbF rfl ?_; refine a_fld ?_; (apply a_ld1 0; exact rfl; exact rfl); refine a_eql ?_; (apply a_jnX; intro J hJ); refine a_cndbF rfl ?_; exact hJ; dsimp only [aix0, aix1, aix2, aix3, aix4, aix5, aix6, aix7, aix8]; refine a_cndbF rfl ?_; refine a_fld ?_; (apply a_ld1 0; exact rfl; exact rfl); refine a_eql ?_; refine a_cndbF rfl ?_; (apply a_jnX; intro J hJ); exact hJ; dsimp only [aix0, aix1, aix2, aix3, aix4, aix5, aix6, aix7, aix8]; refine a_cndbF rfl ?_; refine a_fld ?_; (apply a_ld1 0; exact rfl; exact rfl); refine a_eql ?_; refine a_cndbT rfl ?_; (apply a_jnX; intro J hJ); refine a_cndbT rfl ?_; refine a_not ?_; exact hJ; dsimp only [aix0, aix1, aix2, aix3, aix4, aix5, aix6, aix7, aix8])
                rfl
    · rcases ho with e | e | e | e | e | e | e
      · subst e
        have hl := plc_cast (l := p.sets) (s := nm)
        have hF := c92 p.sets nm (by omega)
        rw [badS, if_pos rfl, regT, if_pos rfl]
        (refine a_fld ?_; (apply a_ld1 0; exact rfl; exact rfl); refine a_eql ?_; refine a_cndbT rfl ?_; refine a_fld ?_; (apply a_ld1 1; exact rfl; exact rfl); refine a_fld ?_; (apply a_ld1 0; exact rfl; exact rfl); refine a_call0 hF ?_; refine a_lss ?_)
        refine a_cnd (fun q => ?_) (fun q => ?_)
        · rw [decide_eq_true q]; rfl
        · have hlt := (atS_rng nm p.sets).2
          rw [decide_eq_false q, hl q]
          (refine a_call0 (c58 (by omega) (by have := hl q; omega)) ?_)
          rfl
      · subst e
        (refine a_fld ?_; (apply a_ld1 0; exact rfl; exact rfl); refine a_eql ?_; refine a_cndbF rfl ?_; refine a_eql ?_; refine a_cndbF rfl ?_; refine a_eql ?_; refine a_cndbT rfl ?_; refine a_cndbT rfl ?_; refine a_fld ?_; (apply a_ld1 0; exact rfl; exact rfl); refine a_eql ?_)
        rfl
      · subst e
        (refine a_fld ?_; (apply a_ld1 0; exact rfl; exact rfl); refine a_eql ?_; refine a_cndbF rfl ?_; refine a_eql ?_; refine a_cndbF rfl ?_; refine a_eql ?_; refine a_cndbF rfl ?_; refine a_eql ?_; refine a_cndbT rfl ?_; refine a_fld ?_; (apply a_ld1 0; exact rfl; exact rfl); refine a_eql ?_)
        rfl
      · subst e
        obtain ⟨x, rfl, hx⟩ := right1 h (s1 := 3) rfl rfl
        cases x with | mk xo xn xi xa =>
        have hl := plc_cast (l := p.nodes) (s := xn)
        have hF := c92 p.nodes xn (by omega)
        have hb : badS p (.mk 10 nm n [.mk xo xn xi xa]) = decide (atS xn p.nodes 0 < 0) := by rw [badS, if_neg (by decide), if_pos rfl]; rfl
        have hg : regT p (.mk 10 nm n [.mk xo xn xi xa]) r = inB r (p.sets.length + plcN p.nodes xn) := by rw [regT, if_neg (by decide), if_pos rfl]; rfl
        rw [hb, hg]
        (refine a_fld ?_; (apply a_ld1 0; exact rfl; exact rfl); refine a_eql ?_; refine a_cndbF rfl ?_; refine a_eql ?_; refine a_cndbT rfl ?_; refine a_fld ?_; (apply a_ld1 1; exact rfl; exact rfl); refine a_fld ?_; (apply a_ld1 0; exact rfl; exact rfl); refine a_idxT0 ?_; refine a_fldp ?_; (apply a_ld1p; exact rfl); refine a_callS0 hF ?_; refine a_lss ?_)
        refine a_cnd (fun q => ?_) (fun q => ?_)
        · rw [decide_eq_true q]; rfl
        · have hlt := (atS_rng xn p.nodes).2
          have hlq := hl q
          rw [decide_eq_false q, hlq]
          (refine a_fld ?_; (apply a_ld1 1; exact rfl; exact rfl); refine a_lenM ?_; refine a_add (by first | omega | assumption | decide) (by first | omega | assumption | decide) ?_; refine a_call0 (c58 (by first | omega | assumption | decide) (by first | omega | assumption | decide)) ?_)
          rfl
      · subst e
        (refine a_fld ?_; (apply a_ld1 0; exact rfl; exact rfl); refine a_eql ?_; refine a_cndbF rfl ?_; refine a_eql ?_; refine a_cndbF rfl ?_; refine a_eql ?_; refine a_cndbF rfl ?_; refine a_eql ?_; refine a_cndbF rfl ?_)
        exact hJ () _ _ (.inl rfl) (by first | exact Gl.refl _ _ | exact Gl.drop (by repeat (first | exact List.Sublist.refl _ | exact List.Sublist.slnil | apply List.Sublist.cons_cons | apply List.Sublist.cons)))
      · subst e
        (refine a_fld ?_; (apply a_ld1 0; exact rfl; exact rfl); refine a_eql ?_; refine a_cndbF rfl ?_; refine a_eql ?_; refine a_cndbF rfl ?_; refine a_eql ?_; refine a_cndbF rfl ?_; refine a_eql ?_; refine a_cndbF rfl ?_)
        exact hJ () _ _ (.inr (.inl rfl)) (by first | exact Gl.refl _ _ | exact Gl.drop (by repeat (first | exact List.Sublist.refl _ | exact List.Sublist.slnil | apply List.Sublist.cons_cons | apply List.Sublist.cons)))
      · subst e
        (refine a_fld ?_; (apply a_ld1 0; exact rfl; exact rfl); refine a_eql ?_; refine a_cndbF rfl ?_; refine a_eql ?_; refine a_cndbF rfl ?_; refine a_eql ?_; refine a_cndbF rfl ?_; refine a_eql ?_; refine a_cndbF rfl ?_)
        exact hJ () _ _ (.inr (.inr rfl)) (by first | exact Gl.refl _ _ | exact Gl.drop (by repeat (first | exact List.Sublist.refl _ | exact List.Sublist.slnil | apply List.Sublist.cons_cons | apply List.Sublist.cons)))
/-- an operation on numbers -/
def IntsJ (op : Int) (J : Int → Int → Int × Bool) : Prop := ∀ x y, ∃ v, AFn pr 64 [.i op, .i x, .i y] [] (.ret (.tuple [.i v, .b (J x y).2])) ∧ ((J x y).2 = true → v = (J x y).1)
theorem intsJ_add : IntsJ 4 addJ := fun x y => ⟨_, ints_add x y, fun h => by rw [wr_in h]; exact (fitI_in h).symm⟩
theorem intsJ_sub : IntsJ 5 subJ := fun x y => ⟨_, ints_sub x y, fun h => by rw [wr_in h]; exact (fitI_in h).symm⟩
theorem intsJ_mul : IntsJ 6 mulJ := fun x y => ⟨_, ints_mul x y, fun h => by rw [wr_in h]; exact (fitI_in h).symm⟩
theorem c44 {op : Int} {J : Int → Int → Int × Bool} (hI : IntsJ op J) {a b : Rw} (hab : a.c.length = b.c.length) (hn : a.c.length ≤ 1000064) :
    AFn pr 44 [.i op, a.d, b.d] [] (.ret (.tuple [(rwJ (joinE J a b)).1.d, .i (rwJ (joinE J a b)).2])) := by
  refine AFn.ofGe (s44 ?_)
  unfold A44
  obtain ⟨zs, hzs⟩ : ∃ zs, zs = zipJ J a b := ⟨_, rfl⟩
  have hz : zs.length = a.c.length := by rw [hzs]; exact zipJ_len hab
  have hzg : ∀ i (h1 : i < zs.length) (h2 : i < a.c.length) (h3 : i < b.c.length), zs[i] = J a.c[i] b.c[i] := fun i h1 h2 h3 => by
    subst hzs; exact zipJ_get hab h2
  rw [joinE_eq, ← hzs]
  clear hzs
  refine a_bxv fun z1 => ?_
  refine a_bxv fun z2 => ?_
  refine a_bx fun z3 => ?_
  (refine a_fld ?_; (apply a_ld1 2; exact rfl; exact rfl); refine a_lenM ?_)
  refine a_mkS a.c.length a.c.length rfl rfl (Nat.le_refl _) (by omega) (by omega) fun z4 => ?_
  refine V.a_bld [.sl z4 0 a.c.length a.c.length, .i 0] rfl rfl ?_
  refine a_bx fun z5 => ?_
  refine a_stA 0 rfl rfl rfl rfl ?_
  have e0 : List.replicate a.c.length 0 = outJ zs a.c.length 0 := by unfold outJ; simp
  rw [zeros_flat, e0]
  refine a_lp (σ := Nat) (fun i => [.i i]) (fun i => [⟨z5, [.sl z4 0 a.c.length a.c.length, .i 0], .box⟩, ⟨z4, (nD (outJ zs a.c.length i)).flatten, .row 2 1 a.c.length⟩, ⟨z3, [.nil, .i 0], .box⟩, ⟨z2, b.cs, .box⟩, ⟨z1, a.cs, .box⟩]) (fun i => i ≤ a.c.length ∧ (zs.take i).all (·.2) = true) (fun i => a.c.length - i) 0 (by first | exact Gl.refl _ _ | exact Gl.drop (by repeat (first | exact List.Sublist.refl _ | exact List.Sublist.slnil | apply List.Sublist.cons_cons | apply List.Sublist.cons))) ⟨Nat.zero_le _, rfl⟩ ?_
  rintro i K ⟨hi, hall⟩ hK
  dsimp only [aix0, aix1, aix2, aix3, aix4, aix5, aix6, aix7, aix8]
  (refine a_fld ?_; (apply a_ld1 4; exact rfl; exact rfl); refine a_lenM ?_; refine a_lss ?_)
  refine a_cnd (fun q => ?_) (fun q => ?_)
  · have hi1 : i < a.c.length := by omega
    have hv := hzg i (by omega) hi1 (by omega)
    have hst := outJ_step hz hi1
    have hat : (zs.take (i + 1)).all (·.2) = (J a.c[i] (b.c[i]'(by omega))).2 := by
      rw [List.take_succ_eq_append_getElem (by omega), List.all_append, hall, ← hv]; simp
    have hno : (J a.c[i] (b.c[i]'(by omega))).2 = false → zs.all (·.2) = false := fun h => by
      rw [List.all_eq_false]
      exact ⟨_, List.getElem_mem (by omega : i < zs.length), by rw [hv, h]; simp⟩
    rw [hv] at hst
    (refine a_fld ?_; (apply a_ld1 4; exact rfl; exact rfl))
    refine a_idxM (f := n1) i hi1 ?_
    ((apply a_ld1 3; exact rfl; exact rfl))
    refine a_idxM (f := n1) i (by omega : i < b.c.length) ?_
    ((apply a_ld1p; exact rfl))
    obtain ⟨v, hV, hv1⟩ := hI a.c[i] (b.c[i]'(by omega))
    refine a_callS0 hV ?_
    generalize J a.c[i] (b.c[i]'(by omega)) = w at *
    cases hv2 : w.2 with
    | false =>
      ((apply a_ext; exact rfl); (apply a_ext; exact rfl); refine a_not ?_; refine a_cndbT rfl ?_; refine V.a_bld [.nil, .i 0] rfl rfl ?_; refine a_stA 2 rfl rfl rfl rfl ?_; (apply a_ldA 2; exact rfl; exact rfl))
      rw [hno hv2]
      exact ge_row0
    | true =>
      rw [hv1 hv2]
      ((apply a_ext; exact rfl); (apply a_ext; exact rfl); refine a_not ?_; refine a_cndbF rfl ?_; refine a_fld ?_; (apply a_ld1 0; exact rfl; exact rfl))
      refine a_idxO (j := (i : Int)) (by omega) (by omega) ?_
      rw [Int.toNat_natCast]
      refine a_stN 1 i rfl (by rw [outJ_len hz hi]; exact hi1) ?_
      rw [hst]
      (refine a_add (by first | omega | assumption | decide) (by first | omega | assumption | decide) ?_)
      exact hK (i + 1) _ _ ⟨by omega, by rw [hat, hv2]⟩ (by omega) (by first | exact Gl.refl _ _ | exact Gl.drop (by repeat (first | exact List.Sublist.refl _ | exact List.Sublist.slnil | apply List.Sublist.cons_cons | apply List.Sublist.cons)))
  · have hin : i = a.c.length := by omega
    clear hK
    subst hin
    have hall : zs.all (·.2) = true := by rwa [List.take_of_length_le (by omega)] at hall
    rw [outJ_end hz, hall]
    (refine a_fld ?_; (apply a_ld1 4; exact rfl; exact rfl); refine a_fld ?_; (apply a_ld1 3; exact rfl; exact rfl))
    obtain ⟨v, hV, hv1⟩ := hI a.k b.k
    refine a_call0 hV ?_
    generalize J a.k b.k = w at *
    cases hv2 : w.2 with
    | false =>
      ((apply a_ext; exact rfl); (apply a_ext; exact rfl); refine a_not ?_; refine a_cndbT rfl ?_; refine V.a_bld [.nil, .i 0] rfl rfl ?_; refine a_stA 2 rfl rfl rfl rfl ?_; (apply a_ldA 2; exact rfl; exact rfl))
      exact ge_row0
    | true =>
      rw [hv1 hv2]
      ((apply a_ext; exact rfl); (apply a_ext; exact rfl); refine a_not ?_; refine a_cndbF rfl ?_; refine a_fld ?_; (apply a_st 0 _; exact rfl; exact rfl; exact rfl; exact rfl; (try dsimp only [afill, aparts, cl, chunk, List.take, List.drop, List.nil_append, List.cons_append, List.append_nil, List.length_cons, List.length_nil, Nat.zero_add, Nat.reduceAdd, Nat.reduceMul]); try exact rfl); (apply a_ldA 0; exact rfl; exact rfl); refine a_stA 2 rfl rfl rfl rfl ?_; (apply a_ldA 2; exact rfl; exact rfl))
      refine ge_fz (f := n1) (l := zs.map (·.1)) (c := a.c.length) n1_len 1 rfl ?_ (List.nil_sublist _)
      rw [List.length_map, hz]
      exact .tuple (.cons (.agg (.cons .hit (.cons (.refl _) .nil))) (.cons (.refl _) .nil))
end Go.Proofs.YtokpeggkofjclaaGreatDoor
