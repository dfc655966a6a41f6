/- Values of names; worlds that may be. -/
import Derived.Test.YtlonmopppgadgaaDoorT3
import Derived.Test.YtlonmopppgadgaaDoorM5
import Derived.Test.YtlonmopppgadgaaDoorC2
import Derived.Test.YtlonmopppgadgaaDoorW6
set_option maxRecDepth 100000
set_option linter.unusedVariables false
namespace Go.Proofs.YtlonmopppgadgaaDoor
open Go Go.V
theorem c97 (s : List Bool) (hl : s.length ≤ 140737488355328) : AFn pr 97 [.row 1 (s.map bc)] [] (.ret (.row 1 (s.map bc))) := by
  refine AFn.small fun hs => AFn.ofGe (s97 ?_)
  rw [Smalls, Small, List.length_map] at hs
  unfold A97
  refine a_eqSn (fun h => ?_) ?_
  · rw [h]
    exact ge_nil
  · refine a_cndbF rfl ?_
    refine a_bldO [] rfl rfl fun z1 => ?_
    refine a_app 0 [] s.length (s.map bc).flatten rfl rfl ⟨rfl, by rw [List.length_map], rfl⟩ (flat_one bc_one s) (by omega) fun b' c' => ?_
    rw [Nat.zero_add]
    exact ge_row bc_len 0 rfl
theorem c56 (v : Vl) (hl : v.s.length ≤ 140737488355328) : AFn pr 56 [v.d] [] (.ret v.d) := by
  refine AFn.of (s56 ?_)
  unfold A56
  refine a_bxv fun z1 => ?_
  (refine a_bx fun z2 => ?_; refine a_fld ?_; (apply a_ld1 1; exact rfl; exact rfl); refine a_call0 (c97 _ (by first | omega | assumption | decide)) ?_; refine a_fld ?_; (apply a_st 1 _; exact rfl; exact rfl; exact rfl; exact rfl; (try dsimp only [afill, aparts, cl, chunk, List.take, List.drop, List.nil_append, List.cons_append, List.append_nil, List.length_cons, List.length_nil, Nat.zero_add, Nat.reduceAdd, Nat.reduceMul]); try exact rfl); (apply a_ldA 1; exact rfl; exact rfl); refine a_stA 0 rfl rfl rfl rfl ?_; (apply a_ldA 0; exact rfl; exact rfl))
  rfl
theorem c99 {b b' : Nat} (x : Nv) (nm : ByteArray) (st : Int) : AFn pr 99 [.agg x.cs, .p b 0, .p b' 0] [⟨b', [.i st], .box⟩, ⟨b, [.s nm], .box⟩] (.ret (.b (decide (x.nm = nm) && decide (x.v.sort = st)))) := by
  refine AFn.ofL (s99 ?_)
  unfold A99 Nv.cs
  refine a_bxv fun z1 => ?_
  (refine a_fld ?_; (apply a_ld1 0; exact rfl; exact rfl); (apply a_ld1 2; exact rfl; exact rfl); refine a_eqlS ?_)
  refine a_cnd (fun h => ?_) (fun h => ?_)
  · (refine a_fld ?_; refine a_fld ?_; (apply a_ld1 0; exact rfl; exact rfl); (apply a_ld1 1; exact rfl; exact rfl); refine a_eql ?_)
    exact ⟨ret_b (by rw [decide_eq_true h, Bool.true_and]), by simp⟩
  · exact ⟨ret_b (by rw [decide_eq_false h, Bool.false_and]), by simp⟩
theorem c98 {b b' : Nat} (l : List Nv) (nm : ByteArray) (st : Int) : AFn pr 98 [.row 5 (l.map Nv.cs), .fn 99 [] [.p b 0, .p b' 0]] [⟨b', [.i st], .box⟩, ⟨b, [.s nm], .box⟩] (.ret (.i (findF nm st l 0))) := by
  refine AFn.small fun hs => AFn.ofL (s98 ?_)
  rw [Smalls, Small, List.length_map] at hs
  have hs := hs.1.1
  unfold A98
  refine a_lenM ?_
  refine a_lp (σ := Nat) (fun i => [.i i]) (fun _ => [⟨b', [.i st], .box⟩, ⟨b, [.s nm], .box⟩]) (fun i => i ≤ l.length ∧ findF nm st (l.drop i) i = findF nm st l 0) (fun i => l.length - i) 0 (by first | exact Gl.refl _ _ | exact Gl.drop (by repeat (first | exact List.Sublist.refl _ | exact List.Sublist.slnil | apply List.Sublist.cons_cons | apply List.Sublist.cons))) ⟨Nat.zero_le _, rfl⟩ ?_
  rintro i K ⟨hi, hd⟩ hK
  dsimp only [aix0, aix1, aix2, aix3, aix4, aix5, aix6, aix7, aix8]
  (refine a_lss ?_)
  refine a_cnd (fun h => ?_) (fun h => ?_)
  · have hi1 : i < l.length := by omega
    rw [List.drop_eq_getElem_cons hi1, findF] at hd
    refine a_idxM i hi1 ?_
    ((apply a_ldAp; exact rfl); refine a_cfW ?_)
    refine a_cfW ?_
    refine a_callR (c99 l[i] nm st) ?_
    refine a_cndb (fun h1 => ?_) (fun h1 => ?_)
    · rw [Bool.and_eq_true, decide_eq_true_eq, decide_eq_true_eq] at h1
      rw [if_pos h1] at hd
      exact ⟨ret_i hd, List.Sublist.refl _⟩
    · rw [if_neg (by rw [← Bool.not_eq_true, Bool.and_eq_true, decide_eq_true_eq, decide_eq_true_eq] at h1; exact h1)] at hd
      (refine a_add (by first | omega | assumption | decide) (by first | omega | assumption | decide) ?_)
      exact hK (i + 1) _ _ ⟨by omega, hd⟩ (by omega) (by first | exact Gl.refl _ _ | exact Gl.drop (by repeat (first | exact List.Sublist.refl _ | exact List.Sublist.slnil | apply List.Sublist.cons_cons | apply List.Sublist.cons)))
  · rw [List.drop_eq_nil_of_le (by omega), findF] at hd
    exact ⟨ret_i hd, List.Sublist.refl _⟩
theorem c57 (w : Wd) (nm : ByteArray) (st : Int) : AFn pr 57 [w.d, .s nm, .i st] [] (.ret (.i (findF nm st w.names 0))) := by
  refine AFn.of (s57 ?_)
  unfold A57
  refine a_bxv fun z1 => ?_
  refine a_bxs fun z2 => ?_
  refine a_bxi fun z3 => ?_
  (refine a_fld ?_; (apply a_ld1 2; exact rfl; exact rfl))
  refine a_callW (R := fun a L' => a = .ret (.i (findF nm st w.names 0))) ?_ ?_
  · exact (ASpec.frame (L1 := [⟨z3, [.i st], .box⟩, ⟨z2, [.s nm], .box⟩, ⟨z1, w.cs, .box⟩]) (M := [⟨z1, w.cs, .box⟩]) (c98 w.names nm st) (List.Perm.refl _)).mono fun a L' ⟨L2, _, h, _⟩ => h
  · rintro a L' rfl
    rfl
theorem c55 (v : Vl) (n : Int) : AFn pr 55 [v.d, .i n] [] (.ret (.b (isF v n))) := by
  unfold isF
  refine AFn.of (s55 ?_)
  unfold A55
  refine a_bxv fun z1 => ?_
  skip
  refine V.a_jn (σ := Int) (fun m => [.i m]) (fun _ => [⟨z1, v.cs, .box⟩]) (fun m => m = if v.sort = 2 then n else 0) ?_ fun J hJ => ?_
  · rintro m hm
    rw [← hm]
    dsimp only [aix0, aix1, aix2, aix3, aix4, aix5, aix6, aix7, aix8]
    refine V.a_jn (σ := Unit) (fun _ => []) (fun _ => [⟨z1, v.cs, .box⟩]) (fun _ => (v.s.length : Int) = m ∧ (v.b && decide (v.sort ≠ 4)) = false) ?_ fun J hJ => ?_
    · rintro _ ⟨h1, h2⟩
      rw [decide_eq_true h1, h2]
      simp only [Bool.not_false, Bool.true_and]
      (refine a_fld ?_; (apply a_ld1 0; exact rfl; exact rfl); refine a_eql ?_)
      refine a_cnd (fun q1 => ?_) (fun q1 => ?_)
      · exact ret_b (decide_eq_true (.inl q1)).symm
      (refine a_eql ?_)
      refine a_cnd (fun q2 => ?_) (fun q2 => ?_)
      · (refine a_fld ?_; (apply a_ld1 0; exact rfl; exact rfl); refine a_geq ?_)
        refine a_cnd (fun q3 => ?_) (fun q3 => ?_)
        · (refine a_fld ?_; (apply a_ld1 0; exact rfl; exact rfl); refine a_lss ?_)
          exact ret_b (decide_eq_decide.2 (by omega))
        · exact ret_b (by rw [eq_comm, decide_eq_false_iff_not]; omega)
      (refine a_eql ?_)
      refine a_cnd (fun q3 => ?_) (fun q3 => ?_)
      · (refine a_cndT (by first | omega | assumption | decide) ?_; refine a_fld ?_; (apply a_ld1 0; exact rfl; exact rfl); refine a_eql ?_)
        exact ret_b (decide_eq_decide.2 (by omega))
      (refine a_eql ?_)
      refine a_cnd (fun q4 => ?_) (fun q4 => ?_)
      · (refine a_fld ?_; (apply a_ld1 0; exact rfl; exact rfl); refine a_eql ?_)
        exact ret_b (decide_eq_decide.2 (by omega))
      · exact ret_b (by rw [eq_comm, decide_eq_false_iff_not]; omega)
    · (refine a_fld ?_; (apply a_ld1 0; exact rfl; exact rfl); refine a_lenM ?_; refine a_neq ?_)
      have hf : ∀ x : Bool, ¬ ((v.s.length : Int) = m ∧ (v.b && decide (v.sort ≠ 4)) = false) → AE.ret (.b false) = AE.ret (.b (decide ((v.s.length : Int) = m) && !(v.b && decide (v.sort ≠ 4)) && x)) := fun x h => by
        refine ret_b ?_
        by_cases h1 : (v.s.length : Int) = m
        · have h2 : (v.b && decide (v.sort ≠ 4)) = true := by
            cases hb : (v.b && decide (v.sort ≠ 4))
            · exact absurd ⟨h1, hb⟩ h
            · rfl
          rw [h2]; simp
        · rw [decide_eq_false h1]; simp
      refine a_cnd (fun q1 => ?_) (fun q1 => ?_)
      · exact hf _ fun h => q1 h.1
      (refine a_fld ?_; (apply a_ld1 0; exact rfl; exact rfl))
      refine V.a_jn (σ := Bool) (fun b => [.b b]) (fun _ => [⟨z1, v.cs, .box⟩]) (fun b => b = (v.b && decide (v.sort ≠ 4))) ?_ fun J2 hJ2 => ?_
      · rintro b hb
        dsimp only [aix0, aix1, aix2, aix3, aix4, aix5, aix6, aix7, aix8]
        refine a_cndb (fun q2 => ?_) (fun q2 => ?_)
        · exact hf _ fun h => by rw [← hb, q2] at h; cases h.2
        · exact hJ () _ _ ⟨Classical.not_not.1 q1, by rw [← hb]; exact q2⟩ (by first | exact Gl.refl _ _ | exact Gl.drop (by repeat (first | exact List.Sublist.refl _ | exact List.Sublist.slnil | apply List.Sublist.cons_cons | apply List.Sublist.cons)))
      refine a_cndb (fun q2 => ?_) (fun q2 => ?_)
      · (refine a_fld ?_; (apply a_ld1 0; exact rfl; exact rfl); refine a_neq ?_)
        exact hJ2 _ _ _ (by rw [q2, Bool.true_and]) (by first | exact Gl.refl _ _ | exact Gl.drop (by repeat (first | exact List.Sublist.refl _ | exact List.Sublist.slnil | apply List.Sublist.cons_cons | apply List.Sublist.cons)))
      · exact hJ2 _ _ _ (by rw [q2, Bool.false_and]) (by first | exact Gl.refl _ _ | exact Gl.drop (by repeat (first | exact List.Sublist.refl _ | exact List.Sublist.slnil | apply List.Sublist.cons_cons | apply List.Sublist.cons)))
  · (refine a_fld ?_; (apply a_ld1 0; exact rfl; exact rfl); refine a_eql ?_)
    refine a_cnd (fun q => ?_) (fun q => ?_)
    · exact hJ n _ _ (by rw [if_pos q]) (by first | exact Gl.refl _ _ | exact Gl.drop (by repeat (first | exact List.Sublist.refl _ | exact List.Sublist.slnil | apply List.Sublist.cons_cons | apply List.Sublist.cons)))
    · exact hJ 0 _ _ (by rw [if_neg q]) (by first | exact Gl.refl _ _ | exact Gl.drop (by repeat (first | exact List.Sublist.refl _ | exact List.Sublist.slnil | apply List.Sublist.cons_cons | apply List.Sublist.cons)))
/-! ### a world that may be -/
theorem laidOut0 : laidOutB pr = true := by kernel_rfl
theorem keyE : MapKey pr 86 PairK :=
  mapKey_pair laidOut0 (of_decide_eq_true (by kernel_rfl)) (of_decide_eq_true (by kernel_rfl)) (by kernel_rfl) (fs := _) (a := _) (b := _) rfl rfl rfl rfl rfl rfl rfl rfl rfl rfl rfl
theorem metB_iff {x : Nv} {l : List Nv} : metB x l = true ↔ ∃ y ∈ l, y.nm = x.nm ∧ y.v.sort = x.v.sort := by
  simp [metB]
theorem c29 (w : Wd) : AFn pr 29 [w.d] [] (.ret (.b (rightW w))) := by
  refine AFn.small fun hs => AFn.of (s29 ?_)
  rw [Smalls] at hs
  obtain ⟨hn, hl, hx⟩ := Wd.small hs.1
  unfold A29
  refine a_bxv fun z1 => ?_
  refine V.a_jn (σ := Unit) (fun _ => []) (fun _ => [⟨z1, w.cs, .box⟩]) (fun _ => 1 ≤ w.nodes ∧ w.nodes ≤ 64 ∧ w.names.length ≤ 64) ?_ fun J hJ => ?_
  · rintro _ ⟨h1, h2, h3⟩
    (refine a_mkM fun z2 => ?_; refine a_fld ?_; (apply a_ld1 1; exact rfl; exact rfl); refine a_lenM ?_)
    refine a_lp (σ := Nat) (fun i => [.i i]) (fun i => [⟨z2, [], .map ((w.names.take i).map fun x => (pairV x.nm x.v.sort, .b true))⟩, ⟨z1, w.cs, .box⟩]) (fun i => i ≤ w.names.length ∧ rightLW w.nodes (w.names.take i) (w.names.drop i) = rightLW w.nodes [] w.names) (fun i => w.names.length - i) 0 (by first | exact Gl.refl _ _ | exact Gl.drop (by repeat (first | exact List.Sublist.refl _ | exact List.Sublist.slnil | apply List.Sublist.cons_cons | apply List.Sublist.cons))) ⟨Nat.zero_le _, rfl⟩ ?_
    rintro i K ⟨hi, hd⟩ hK
    dsimp only [aix0, aix1, aix2, aix3, aix4, aix5, aix6, aix7, aix8]
    (refine a_lss ?_)
    refine a_cnd (fun q => ?_) (fun q => ?_)
    · have hi1 : i < w.names.length := by omega
      rw [List.drop_eq_getElem_cons hi1, rightLW] at hd
      have hall : (1 ≤ w.nodes ∧ w.nodes ≤ 64 ∧ w.names.length ≤ 64) := ⟨h1, h2, h3⟩
      have hfalse : (nameF w.names[i].nm.data.toList && isF w.names[i].v w.nodes && !metB w.names[i] (w.names.take i)) = false → AE.ret (.b false) = AE.ret (.b (rightW w)) := fun h => by
        rw [h, Bool.false_and] at hd
        exact ret_b (by rw [rightW, ← hd, Bool.and_false])
      obtain ⟨hnm, hv⟩ := Nv.small (hx _ (List.getElem_mem hi1))
      obtain ⟨hst, _, _⟩ := Vl.small hv
      have hK1 : PairK (pairV w.names[i].nm w.names[i].v.sort) := ⟨_, _, rfl, hnm, hst.1, hst.2⟩
      have hes : ∀ e ∈ (w.names.take i).map (fun x => (pairV x.nm x.v.sort, D.b true)), PairK e.1 := fun e he => by
        obtain ⟨x, hx', rfl⟩ := List.mem_map.1 he
        obtain ⟨q1, q2⟩ := Nv.small (hx _ (List.mem_of_mem_take hx'))
        obtain ⟨q3, _, _⟩ := Vl.small q2
        exact ⟨_, _, rfl, q1, q3.1, q3.2⟩
      refine a_idxM i hi1 ?_
      ((apply a_ldAp; exact rfl); refine a_bx fun z3 => ?_; refine a_stA 0 rfl rfl rfl rfl ?_; refine a_fld ?_; (apply a_ld1 0; exact rfl; exact rfl); refine a_fld ?_; refine a_fld ?_; (apply a_ld1 0; exact rfl; exact rfl); (apply a_bld _; exact rfl; (try dsimp only [afill, aparts, cl, chunk, List.take, List.drop, List.nil_append, List.cons_append, List.append_nil, List.length_cons, List.length_nil, Nat.zero_add, Nat.reduceAdd, Nat.reduceMul]); try exact rfl); refine a_bx fun z4 => ?_; refine a_stA 0 rfl rfl rfl rfl ?_; refine a_fld ?_; (apply a_ld1 1; exact rfl; exact rfl); refine a_call0 (c41) ?_; refine a_not ?_)
      refine a_cndb (fun q1 => ?_) (fun q1 => ?_)
      · exact hfalse (by simp only [Bool.not_eq_true'] at q1; rw [q1]; rfl)
      (refine a_fld ?_; (apply a_ldN 1 _; exact rfl; exact rfl; exact rfl); refine a_fld ?_; (apply a_ld1 3; exact rfl; exact rfl); refine a_call0 (c55 _ _) ?_; refine a_not ?_)
      refine a_cndb (fun q2 => ?_) (fun q2 => ?_)
      · refine hfalse ?_
        simp only [Bool.not_eq_true'] at q2
        rw [show isF w.names[i].v w.nodes = false from q2, Bool.and_false]; rfl
      ((apply a_ldA 0; exact rfl; exact rfl))
      have hin : ∀ y ∈ w.names.take i, y.nm = w.names[i].nm ∧ y.v.sort = w.names[i].v.sort → metB w.names[i] (w.names.take i) = true := fun y hy h => metB_iff.2 ⟨y, hy, h⟩
      cases hm : metB w.names[i] (w.names.take i) with
      | true =>
        obtain ⟨y, hy, e1, e2⟩ := metB_iff.1 hm
        refine a_lkT (d := .b true) 2 rfl keyE hes (dkv_pair _ _) hK1 (List.mem_map.2 ⟨y, hy, by rw [e1, e2]⟩) ?_
        exact hfalse (by rw [hm]; simp)
      | false =>
        have hne : ∀ e ∈ (w.names.take i).map (fun x => (pairV x.nm x.v.sort, D.b true)), e.1 ≠ pairV w.names[i].nm w.names[i].v.sort := fun e he hh => by
          obtain ⟨y, hy, rfl⟩ := List.mem_map.1 he
          rw [hin y hy (pairV_inj hh)] at hm
          cases hm
        refine a_lkF 2 rfl keyE hes (dkv_pair _ _) hK1 hne ?_
        refine a_cndbF rfl ?_
        ((apply a_ldA 0; exact rfl; exact rfl))
        refine a_upN 2 rfl keyE hes (dkv_pair _ _) hK1 hne ?_
        (refine a_add (by first | omega | assumption | decide) (by first | omega | assumption | decide) ?_)
        rw [show (w.names.take i).map (fun x => (pairV x.nm x.v.sort, D.b true)) ++ [(pairV w.names[i].nm w.names[i].v.sort, D.b true)] = (w.names.take (i + 1)).map (fun x => (pairV x.nm x.v.sort, D.b true)) by
          rw [List.take_succ_eq_append_getElem hi1, List.map_append]; rfl]
        refine hK (i + 1) _ _ ⟨by omega, ?_⟩ (by omega) (by first | exact Gl.refl _ _ | exact Gl.drop (by repeat (first | exact List.Sublist.refl _ | exact List.Sublist.slnil | apply List.Sublist.cons_cons | apply List.Sublist.cons)))
        simp only [Bool.not_eq_false'] at q1 q2
        rw [show isF w.names[i].v w.nodes = true from q2, q1, hm, Bool.true_and, Bool.not_false, Bool.true_and, Bool.true_and] at hd
        rw [List.take_succ_eq_append_getElem hi1]
        exact hd
    · rw [List.drop_eq_nil_of_le (by omega), rightLW] at hd
      exact ret_b (by rw [rightW, ← hd, decide_eq_true h1, decide_eq_true h2, decide_eq_true h3]; rfl)
  · (refine a_fld ?_; (apply a_ld1 0; exact rfl; exact rfl); refine a_lss ?_)
    refine a_cnd (fun q => ?_) (fun q => ?_)
    · exact ret_b (by rw [rightW, decide_eq_false (by omega : ¬ 1 ≤ w.nodes)]; rfl)
    (refine a_fld ?_; (apply a_ld1 0; exact rfl; exact rfl); refine a_gtr ?_)
    refine a_cnd (fun q2 => ?_) (fun q2 => ?_)
    · exact ret_b (by rw [rightW, decide_eq_false (by omega : ¬ w.nodes ≤ 64), Bool.and_false]; rfl)
    (refine a_fld ?_; (apply a_ld1 0; exact rfl; exact rfl); refine a_lenM ?_; refine a_gtr ?_)
    refine a_cnd (fun q3 => ?_) (fun q3 => ?_)
    · exact ret_b (by rw [rightW, decide_eq_false (by omega : ¬ w.names.length ≤ 64), Bool.and_false]; rfl)
    exact hJ () _ _ ⟨by omega, by omega, by omega⟩ (by first | exact Gl.refl _ _ | exact Gl.drop (by repeat (first | exact List.Sublist.refl _ | exact List.Sublist.slnil | apply List.Sublist.cons_cons | apply List.Sublist.cons)))
/-! ### a name's value -/
theorem findF_at {nm : ByteArray} {st : Int} : ∀ (l : List Nv) (i : Nat), (findF nm st l i = -1 ∧ ∀ x ∈ l, ¬ (x.nm = nm ∧ x.v.sort = st)) ∨ ∃ j x, findF nm st l i = (i + j : Nat) ∧ l[j]? = some x ∧ x.nm = nm ∧ x.v.sort = st
  | [], i => .inl ⟨rfl, fun x hx => by cases hx⟩
  | x :: r, i => by
    rw [findF]
    by_cases h : x.nm = nm ∧ x.v.sort = st
    · rw [if_pos h]
      exact .inr ⟨0, x, rfl, rfl, h.1, h.2⟩
    · rw [if_neg h]
      rcases findF_at r (i + 1) with ⟨h1, h2⟩ | ⟨j, y, h1, h2, h3⟩
      · refine .inl ⟨h1, fun y hy => ?_⟩
        rcases List.mem_cons.1 hy with rfl | hy
        · exact h
        · exact h2 y hy
      · exact .inr ⟨j + 1, y, by rw [h1]; congr 1; omega, h2, h3⟩
theorem find_get {nm : ByteArray} {st : Int} : ∀ (l : List Nv) (i : Nat), (findF nm st l i = -1 ∧ getF l nm st = none) ∨ ∃ j x, findF nm st l i = (i + j : Nat) ∧ l[j]? = some x ∧ getF l nm st = some x.v
  | [], i => .inl ⟨rfl, rfl⟩
  | x :: r, i => by
    unfold getF
    rw [findF, List.find?_cons]
    by_cases h : x.nm = nm ∧ x.v.sort = st
    · rw [if_pos h, decide_eq_true h.1, decide_eq_true h.2]
      exact .inr ⟨0, x, rfl, rfl, rfl⟩
    · have hd : (decide (x.nm = nm) && decide (x.v.sort = st)) = false := by
        rw [← Bool.not_eq_true, Bool.and_eq_true, decide_eq_true_eq, decide_eq_true_eq]; exact h
      rw [if_neg h, hd]
      rcases find_get r (i + 1) with ⟨h1, h2⟩ | ⟨j, y, h1, h2, h3⟩
      · exact .inl ⟨h1, h2⟩
      · exact .inr ⟨j + 1, y, by rw [h1]; congr 1; omega, h2, h3⟩
def smallW (w : Wd) : Prop := ∀ x ∈ w.names, x.v.s.length ≤ 140737488355328
theorem c32 (w : Wd) (nm : ByteArray) (st : Int) (hw : smallW w) : AFn pr 32 [w.d, .s nm, .i st] [] (.ret (getD' w.names nm st)) := by
  refine AFn.of (s32 ?_)
  unfold A32 getD'
  refine a_bxv fun z1 => ?_
  (refine a_bx fun z2 => ?_; (apply a_ldA 1; exact rfl; exact rfl); refine a_call0 (c57 _ _ _) ?_; refine a_lss ?_)
  rcases find_get (nm := nm) (st := st) w.names 0 with ⟨h1, h2⟩ | ⟨j, x, h1, h2, h3⟩
  · rw [h1, h2]
    (refine a_cndbT rfl ?_; refine a_bldV0 rfl rfl ?_; refine a_stA 0 rfl rfl rfl rfl ?_; (apply a_ldA 0; exact rfl; exact rfl))
    rfl
  · rw [h1, h3]
    obtain ⟨hj, hx⟩ := List.getElem?_eq_some_iff.1 h2
    have hxs := hw x (hx ▸ List.getElem_mem hj)
    refine a_cndF (by omega) ?_
    (refine a_fld ?_; (apply a_ld1 1; exact rfl; exact rfl))
    refine a_idxMz j (by omega) hj ?_
    rw [hx]
    (refine a_fldp ?_; (apply a_ldAp; exact rfl); refine a_call0 (c56 x.v hxs) ?_; refine a_stA 0 rfl rfl rfl rfl ?_; (apply a_ldA 0; exact rfl; exact rfl))
    rfl
theorem c30 (u v : Vl) : AFn pr 30 [u.d, v.d] [] (.ret (.b (decide (u.sort = v.sort) && decide (u.n = v.n) && decide (u.b = v.b) && decide (u.s = v.s)))) := by
  refine AFn.small fun hs => AFn.of (s30 ?_)
  rw [Smalls] at hs
  obtain ⟨_, _, hl⟩ := Vl.small (Vl.small_d hs.1)
  unfold A30
  refine a_bxv fun z1 => ?_
  refine a_bxv fun z2 => ?_
  have key : ∀ p q r t : Prop, [Decidable p] → [Decidable q] → [Decidable r] → [Decidable t] → ¬ (p ∧ q ∧ r ∧ t) → AE.ret (.b false) = AE.ret (.b (decide p && decide q && decide r && decide t)) := by
    intro p q r t _ _ _ _ h
    refine ret_b ?_
    rw [eq_comm, ← Bool.not_eq_true]
    simp only [Bool.and_eq_true, decide_eq_true_eq]
    exact fun hh => h ⟨hh.1.1.1, hh.1.1.2, hh.1.2, hh.2⟩
  refine V.a_jn (σ := Unit) (fun _ => []) (fun _ => [⟨z2, v.cs, .box⟩, ⟨z1, u.cs, .box⟩]) (fun _ => u.sort = v.sort ∧ u.n = v.n ∧ u.b = v.b ∧ u.s.length = v.s.length) ?_ fun J hJ => ?_
  · rintro _ ⟨h1, h2, h3, h4⟩
    refine a_lp (σ := Nat) (fun i => [.i i]) (fun _ => [⟨z2, v.cs, .box⟩, ⟨z1, u.cs, .box⟩]) (fun i => i ≤ u.s.length ∧ (u.s = v.s ↔ u.s.drop i = v.s.drop i)) (fun i => u.s.length - i) 0 (by first | exact Gl.refl _ _ | exact Gl.drop (by repeat (first | exact List.Sublist.refl _ | exact List.Sublist.slnil | apply List.Sublist.cons_cons | apply List.Sublist.cons))) ⟨Nat.zero_le _, by simp⟩ ?_
    rintro i K ⟨hi, hd⟩ hK
    dsimp only [aix0, aix1, aix2, aix3, aix4, aix5, aix6, aix7, aix8]
    (refine a_fld ?_; (apply a_ld1 1; exact rfl; exact rfl); refine a_lenM ?_; refine a_lss ?_)
    refine a_cnd (fun q => ?_) (fun q => ?_)
    · have hi1 : i < u.s.length := by omega
      have hi2 : i < v.s.length := by omega
      rw [List.drop_eq_getElem_cons hi1, List.drop_eq_getElem_cons hi2, List.cons.injEq] at hd
      (refine a_fld ?_; (apply a_ld1 1; exact rfl; exact rfl))
      refine a_idxM i hi1 ?_
      ((apply a_ld1 0; exact rfl; exact rfl))
      refine a_idxM i hi2 ?_
      ((apply a_ld1p; exact rfl); refine a_neqB ?_)
      refine a_cndb (fun q1 => ?_) (fun q1 => ?_)
      · refine key _ _ _ _ fun hh => ?_
        have := (hd.1 hh.2.2.2).1
        rw [this] at q1
        simp at q1
      · have q1 : u.s[i] = v.s[i] := by simpa using q1
        (refine a_add (by first | omega | assumption | decide) (by first | omega | assumption | decide) ?_)
        refine hK (i + 1) _ _ ⟨by omega, ?_⟩ (by omega) (by first | exact Gl.refl _ _ | exact Gl.drop (by repeat (first | exact List.Sublist.refl _ | exact List.Sublist.slnil | apply List.Sublist.cons_cons | apply List.Sublist.cons)))
        rw [hd]
        exact ⟨fun h => h.2, fun h => ⟨q1, h⟩⟩
    · rw [List.drop_eq_nil_of_le (by omega), List.drop_eq_nil_of_le (by omega)] at hd
      exact ret_b (by rw [decide_eq_true h1, decide_eq_true h2, decide_eq_true h3, decide_eq_true (hd.2 rfl)]; rfl)
  · (refine a_fld ?_; (apply a_ld1 1; exact rfl; exact rfl); refine a_fld ?_; (apply a_ld1 0; exact rfl; exact rfl); refine a_neq ?_)
    refine a_cnd (fun q => ?_) (fun q => ?_)
    · exact key _ _ _ _ fun hh => q hh.1
    (refine a_fld ?_; (apply a_ld1 1; exact rfl; exact rfl); refine a_fld ?_; (apply a_ld1 0; exact rfl; exact rfl); refine a_neq ?_)
    refine a_cnd (fun q2 => ?_) (fun q2 => ?_)
    · exact key _ _ _ _ fun hh => q2 hh.2.1
    (refine a_fld ?_; (apply a_ld1 1; exact rfl; exact rfl); refine a_fld ?_; (apply a_ld1 0; exact rfl; exact rfl); refine a_neqB ?_)
    refine a_cndb (fun q3 => ?_) (fun q3 => ?_)
    · refine key _ _ _ _ fun hh => ?_
      rw [hh.2.2.1] at q3; simp at q3
    (refine a_fld ?_; (apply a_ld1 1; exact rfl; exact rfl); refine a_lenM ?_; refine a_fld ?_; (apply a_ld1 0; exact rfl; exact rfl); refine a_lenM ?_; refine a_neq ?_)
    refine a_cnd (fun q4 => ?_) (fun q4 => ?_)
    · refine key _ _ _ _ fun hh => q4 (by rw [hh.2.2.2])
    exact hJ () _ _ ⟨Classical.not_not.1 q, Classical.not_not.1 q2, by simpa using q3, by omega⟩ (by first | exact Gl.refl _ _ | exact Gl.drop (by repeat (first | exact List.Sublist.refl _ | exact List.Sublist.slnil | apply List.Sublist.cons_cons | apply List.Sublist.cons)))
/-! ### sets -/
theorem cntF_rng : ∀ l : List Bool, 0 ≤ cntF l ∧ cntF l ≤ l.length
  | [] => by simp [cntF]
  | x :: r => by
    have := cntF_rng r
    rw [cntF, List.length_cons]
    cases x <;> simp <;> omega
theorem c118 (s : List Bool) : AFn pr 118 [.row 1 (s.map bc)] [] (.ret (.i (cntF s))) := by
  refine AFn.small fun hs => AFn.of (s118 ?_)
  rw [Smalls, Small, List.length_map] at hs
  have hs := hs.1.1
  unfold A118
  refine a_lenM ?_
  have hr := cntF_rng s
  refine a_lp2 (σ := Int) (τ := Nat) (fun n i => [.i n, .i i]) (fun _ _ => []) (fun n i => i ≤ s.length ∧ n + cntF (s.drop i) = cntF s ∧ 0 ≤ n) (fun _ i => s.length - i) 0 0 (by first | exact Gl.refl _ _ | exact Gl.drop (by repeat (first | exact List.Sublist.refl _ | exact List.Sublist.slnil | apply List.Sublist.cons_cons | apply List.Sublist.cons))) ⟨Nat.zero_le _, by simp, by omega⟩ ?_
  rintro n i K ⟨hi, hd, hn⟩ hK
  dsimp only [aix0, aix1, aix2, aix3, aix4, aix5, aix6, aix7, aix8]
  (refine a_lss ?_)
  refine a_cnd (fun q => ?_) (fun q => ?_)
  · have hi1 : i < s.length := by omega
    rw [List.drop_eq_getElem_cons hi1, cntF] at hd
    have hr2 := cntF_rng (s.drop (i + 1))
    refine a_idxM i hi1 ?_
    ((apply a_ld1p; exact rfl))
    refine a_cndb (fun q1 => ?_) (fun q1 => ?_)
    · rw [q1] at hd
      simp only [if_true] at hd
      (refine a_add (by first | omega | assumption | decide) (by first | omega | assumption | decide) ?_; refine a_add (by first | omega | assumption | decide) (by first | omega | assumption | decide) ?_)
      exact hK (n + 1) (i + 1) _ _ ⟨by omega, by omega, by omega⟩ (by omega) (by first | exact Gl.refl _ _ | exact Gl.drop (by repeat (first | exact List.Sublist.refl _ | exact List.Sublist.slnil | apply List.Sublist.cons_cons | apply List.Sublist.cons)))
    · rw [q1] at hd
      simp only [Bool.false_eq_true, if_false] at hd
      (refine a_add (by first | omega | assumption | decide) (by first | omega | assumption | decide) ?_)
      exact hK n (i + 1) _ _ ⟨by omega, by omega, by omega⟩ (by omega) (by first | exact Gl.refl _ _ | exact Gl.drop (by repeat (first | exact List.Sublist.refl _ | exact List.Sublist.slnil | apply List.Sublist.cons_cons | apply List.Sublist.cons)))
  · rw [List.drop_eq_nil_of_le (by omega), cntF] at hd
    exact ret_i (by omega)
theorem c125 (s t : List Bool) (hl : s.length ≤ t.length) : AFn pr 125 [.row 1 (s.map bc), .row 1 (t.map bc)] [] (.ret (.b (withinF s t))) := by
  refine AFn.small fun hs => AFn.of (s125 ?_)
  rw [Smalls, Small, List.length_map] at hs
  have hs := hs.1.1
  unfold A125
  refine a_lenM ?_
  refine a_lp (σ := Nat) (fun i => [.i i]) (fun _ => []) (fun i => i ≤ s.length ∧ withinF (s.drop i) (t.drop i) = withinF s t) (fun i => s.length - i) 0 (by first | exact Gl.refl _ _ | exact Gl.drop (by repeat (first | exact List.Sublist.refl _ | exact List.Sublist.slnil | apply List.Sublist.cons_cons | apply List.Sublist.cons))) ⟨Nat.zero_le _, rfl⟩ ?_
  rintro i K ⟨hi, hd⟩ hK
  dsimp only [aix0, aix1, aix2, aix3, aix4, aix5, aix6, aix7, aix8]
  (refine a_lss ?_)
  refine a_cnd (fun q => ?_) (fun q => ?_)
  · have hi1 : i < s.length := by omega
    have hi2 : i < t.length := by omega
    rw [List.drop_eq_getElem_cons hi1, List.drop_eq_getElem_cons hi2, withinF, List.headD_cons, List.tail_cons] at hd
    refine a_idxM i hi1 ?_
    ((apply a_ld1p; exact rfl))
    refine a_cndb (fun q1 => ?_) (fun q1 => ?_)
    · rw [q1] at hd
      refine a_idxM i hi2 ?_
      ((apply a_ld1p; exact rfl); refine a_not ?_)
      refine a_cndb (fun q2 => ?_) (fun q2 => ?_)
      · rw [show t[i] = false by simpa using q2] at hd
        exact ret_b (by rw [← hd]; rfl)
      · rw [show t[i] = true by simpa using q2] at hd
        (refine a_add (by first | omega | assumption | decide) (by first | omega | assumption | decide) ?_)
        exact hK (i + 1) _ _ ⟨by omega, by rw [← hd]; rfl⟩ (by omega) (by first | exact Gl.refl _ _ | exact Gl.drop (by repeat (first | exact List.Sublist.refl _ | exact List.Sublist.slnil | apply List.Sublist.cons_cons | apply List.Sublist.cons)))
    · rw [q1] at hd
      (refine a_add (by first | omega | assumption | decide) (by first | omega | assumption | decide) ?_)
      exact hK (i + 1) _ _ ⟨by omega, by rw [← hd]; rfl⟩ (by omega) (by first | exact Gl.refl _ _ | exact Gl.drop (by repeat (first | exact List.Sublist.refl _ | exact List.Sublist.slnil | apply List.Sublist.cons_cons | apply List.Sublist.cons)))
  · rw [List.drop_eq_nil_of_le (by omega), withinF] at hd
    exact ret_b hd
theorem c126 (s t : List Bool) : AFn pr 126 [.row 1 (s.map bc), .row 1 (t.map bc)] [] (.ret (.b (decide (s = t)))) := by
  refine AFn.small fun hs => AFn.of (s126 ?_)
  rw [Smalls, Small, List.length_map] at hs
  have hs := hs.1.1
  unfold A126
  (refine a_lenM ?_; refine a_lenM ?_; refine a_neq ?_)
  refine a_cnd (fun q0 => ?_) (fun q0 => ?_)
  · exact ret_b (decide_eq_false (fun h => q0 (by rw [h]))).symm
  (refine a_lenM ?_)
  refine a_lp (σ := Nat) (fun i => [.i i]) (fun _ => []) (fun i => i ≤ s.length ∧ (s = t ↔ s.drop i = t.drop i)) (fun i => s.length - i) 0 (by first | exact Gl.refl _ _ | exact Gl.drop (by repeat (first | exact List.Sublist.refl _ | exact List.Sublist.slnil | apply List.Sublist.cons_cons | apply List.Sublist.cons))) ⟨Nat.zero_le _, by simp⟩ ?_
  rintro i K ⟨hi, hd⟩ hK
  dsimp only [aix0, aix1, aix2, aix3, aix4, aix5, aix6, aix7, aix8]
  (refine a_lss ?_)
  refine a_cnd (fun q => ?_) (fun q => ?_)
  · have hi1 : i < s.length := by omega
    have hi2 : i < t.length := by omega
    rw [List.drop_eq_getElem_cons hi1, List.drop_eq_getElem_cons hi2, List.cons.injEq] at hd
    refine a_idxM i hi1 ?_
    ((apply a_ld1p; exact rfl))
    refine a_idxM i hi2 ?_
    ((apply a_ld1p; exact rfl); refine a_neqB ?_)
    refine a_cndb (fun q1 => ?_) (fun q1 => ?_)
    · refine ret_b (decide_eq_false (fun h => ?_)).symm
      rw [(hd.1 h).1] at q1
      simp at q1
    · (refine a_add (by first | omega | assumption | decide) (by first | omega | assumption | decide) ?_)
      refine hK (i + 1) _ _ ⟨by omega, ?_⟩ (by omega) (by first | exact Gl.refl _ _ | exact Gl.drop (by repeat (first | exact List.Sublist.refl _ | exact List.Sublist.slnil | apply List.Sublist.cons_cons | apply List.Sublist.cons)))
      rw [hd]
      exact ⟨fun h => h.2, fun h => ⟨by simpa using q1, h⟩⟩
  · rw [List.drop_eq_nil_of_le (by omega), List.drop_eq_nil_of_le (by omega)] at hd
    exact ret_b (decide_eq_true (hd.2 rfl)).symm
end Go.Proofs.YtlonmopppgadgaaDoor
