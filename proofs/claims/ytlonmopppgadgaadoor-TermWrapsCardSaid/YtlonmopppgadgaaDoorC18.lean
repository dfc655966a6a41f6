/- Contracts: the law TermWraps. -/
import Derived.Test.YtlonmopppgadgaaDoorC17
set_option maxRecDepth 100000
set_option linter.unusedVariables false
namespace Go.Proofs.YtlonmopppgadgaaDoor
open Go Go.V
def intsD (l : List Int) : List (List D) := l.map fun x => [.i x]
theorem a_idxI {l : List Int} {ki : IntKind} {k : D → Prop} (i : Nat) (hi : i < l.length) (h : k (.pin [.i l[i]])) : aidxS 1 (.row 1 (intsD l)) (.val (.int ki i)) k :=
  V.a_idx i _ (by unfold intsD; rw [List.getElem?_map, List.getElem?_eq_getElem hi]; rfl) h
/-- one operation around a term -/
theorem wrap_sort {t : Tm} {op s md n : Int} (hs : t.size < 1990) (hd : t.dep < 90) (hr : rightT t 0 = true) (h1 : 1 ≤ op) (h2 : op ≤ 28) (ha : (shpAt op).a = [s]) (hm : (shpAt op).many = false) (hn : (shpAt op).name = false) (hk : (shpAt op).number = false → n = 0) (hmd : (shpAt op).sort = md) (hs0 : s ≠ 0) :
    sortF (.mk op ⟨#[]⟩ n [t]) = if (sortF t).1 = s then (md, 0) else (0, 3) := by
  have e1 : sortF t = ((shpAt t.op).sort, 0) := by rw [sortF_eq, if_neg (by omega), if_pos hr]
  have e2 : (Tm.mk op ⟨#[]⟩ n [t]).size = t.size + 1 := by rw [Tm.size_mk, Tm.sizeL_cons, Tm.sizeL_nil]
  have e3 : (Tm.mk op ⟨#[]⟩ n [t]).dep = t.dep + 1 := by rw [Tm.dep_mk, Tm.depL_cons, Tm.depL_nil]; omega
  have e4 : rightT (.mk op ⟨#[]⟩ n [t]) 0 = true ↔ (shpAt t.op).sort = s := by
    constructor
    · intro h
      have := ((right_iff _ _).1 h).kids 0 (by simp [Tm.a])
      simp only [Tm.op, Tm.a, ha, hm, cond_false, List.getD_cons_zero, List.getElem_cons_zero] at this
      exact right_sort this hs0
    · intro h
      refine (right_iff _ _).2 ⟨h1, h2, .inl rfl, fun h => ?_, fun _ => rfl, hk, fun _ => ?_, fun i hi => ?_⟩
      · rw [show (Tm.mk op ⟨#[]⟩ n [t]).op = op from rfl, hn] at h; cases h
      · show 1 = (shpAt op).a.length
        rw [ha]; rfl
      · cases i with
        | zero =>
          simp only [Tm.op, Tm.a, ha, hm, cond_false, List.getD_cons_zero, List.getElem_cons_zero]
          exact right_of hr h
        | succ i => exact absurd hi (by simp [Tm.a])
  rw [sortF_eq, if_neg (by omega), e1]
  by_cases h : (shpAt t.op).sort = s
  · rw [if_pos (e4.2 h), if_pos h, show (Tm.mk op ⟨#[]⟩ n [t]).op = op from rfl, hmd]
  · rw [if_neg (fun h' => h (e4.1 h')), if_neg h]
theorem wrap_ops (i : Nat) (h : i < 4) : ∃ op s md, ([18, 3, 10, 6] : List Int)[i]? = some op ∧ ([4, 2, 3, 1] : List Int)[i]? = some s ∧ ([4, 1, 2, 1] : List Int)[i]? = some md ∧ 1 ≤ op ∧ op ≤ 28 ∧ (shpAt op).a = [s] ∧ (shpAt op).many = false ∧ (shpAt op).name = false ∧ ((shpAt op).number = true ↔ op = 6) ∧ (shpAt op).sort = md ∧ s ≠ 0 := by
  match i, h with
  | 0, _ => exact ⟨18, 4, 4, rfl, rfl, rfl, by decide⟩
  | 1, _ => exact ⟨3, 2, 1, rfl, rfl, rfl, by decide⟩
  | 2, _ => exact ⟨10, 3, 2, rfl, rfl, rfl, by decide⟩
  | 3, _ => exact ⟨6, 1, 1, rfl, rfl, rfl, by decide⟩
theorem a_idxJ {l : List Int} {ki : IntKind} {k : D → Prop} (i : Nat) {x : Int} (hi : l[i]? = some x) (h : k (.pin [.i x])) : aidxS 1 (.row 1 (intsD l)) (.val (.int ki i)) k :=
  V.a_idx i _ (by unfold intsD; rw [List.getElem?_map, hi]; rfl) h
theorem c15 (t : Tm) (n : Int) : AFn pr 15 [t.d, .i n] [] (.ret (.b true)) := by
  refine AFn.of (s15 ?_)
  unfold A15
  (refine a_bxv fun z1 => ?_; refine a_call0 (c33) ?_; (apply a_ldA 0; exact rfl; exact rfl); refine a_call0 (c23 _) ?_; (apply a_ext; exact rfl); (apply a_ext; exact rfl))
  refine a_jn (σ := Unit) (fun _ => []) (fun _ => [⟨z1, t.cs, .box⟩]) (fun _ => t.size < 1990 ∧ t.dep < 90 ∧ rightT t 0 = true) ?_ fun J hJ => ?_
  · rintro _ ⟨hs, hd, hr⟩
    refine V.a_bldS (intsD [18, 3, 10, 6]) rfl rfl ?_
    refine V.a_bldS (intsD [4, 2, 3, 1]) rfl rfl ?_
    refine V.a_bldS (intsD [4, 1, 2, 1]) rfl rfl ?_
    refine a_lp (σ := Nat) (fun i => [.i i]) (fun _ => [⟨z1, t.cs, .box⟩]) (fun i => i ≤ 4) (fun i => 4 - i) 0 (by first | exact Gl.refl _ _ | exact Gl.drop (by repeat (first | exact List.Sublist.refl _ | exact List.Sublist.slnil | apply List.Sublist.cons_cons | apply List.Sublist.cons))) (Nat.zero_le _) ?_
    rintro i K hi hK
    dsimp only [aix0, aix1, aix2, aix3, aix4, aix5, aix6, aix7, aix8]
    (refine a_lss ?_)
    refine a_cnd (fun h => ?_) (fun h => ?_)
    · have hlt : i < 4 := by omega
      obtain ⟨op, s, md, o1, o2, o3, p1, p2, p3, p4, p5, p6, p7, p8⟩ := wrap_ops i hlt
      (refine a_idxJ i o1 ?_; (apply a_ld1p; exact rfl); (apply a_ldA 0; exact rfl; exact rfl); refine a_rowT1 rfl ?_; refine a_bldT rfl rfl ?_; refine a_bx fun z2 => ?_; refine a_stA 0 rfl rfl rfl rfl ?_)
      refine a_jn (σ := Int) (fun _ => []) (fun m => [⟨z2, (Tm.mk op ⟨#[]⟩ m [t]).cs, .box⟩, ⟨z1, t.cs, .box⟩]) (fun m => (shpAt op).number = false → m = 0) ?_ fun J hJ => ?_
      · rintro m hm
        have e := wrap_sort (n := m) hs hd hr p1 p2 p3 p4 p5 hm p7 p8
        have e2 : (Tm.mk op ⟨#[]⟩ m [t]).size = t.size + 1 := by rw [Tm.size_mk, Tm.sizeL_cons, Tm.sizeL_nil]
        have e3 : (Tm.mk op ⟨#[]⟩ m [t]).dep = t.dep + 1 := by rw [Tm.dep_mk, Tm.depL_cons, Tm.depL_nil]; omega
        have c1 := c23 (Tm.mk op ⟨#[]⟩ m [t])
        have c2 := c25r (t := Tm.mk op ⟨#[]⟩ m [t]) (by omega)
        have c3 := c24r (t := Tm.mk op ⟨#[]⟩ m [t]) (by omega)
        have c4 := c25r (t := t) (by omega)
        have c5 := c24r (t := t) (by omega)
        rw [e2, Int.natCast_add] at c2
        rw [e3, Int.natCast_add] at c3
        rw [show ((1 : Nat) : Int) = 1 from rfl] at c2 c3
        rw [e] at c1
        by_cases h4 : (sortF t).1 = s
        · rw [if_pos h4] at c1
          have c1 : AFn pr 23 [(Tm.mk op ⟨#[]⟩ m [t]).d] [] (.ret (.tuple [.i md, .i 0])) := c1
          ((apply a_ldA 0; exact rfl; exact rfl); refine a_call0 c1 ?_; (apply a_ext; exact rfl); (apply a_ext; exact rfl); refine a_eql ?_; refine a_idxJ i o2 ?_; (apply a_ld1p; exact rfl); refine a_eql ?_; refine a_neqB ?_)
          refine a_cndbF (by simp [h4]) ?_
          (refine a_eql ?_; refine a_cndbT rfl ?_; refine a_idxJ i o3 ?_; (apply a_ld1p; exact rfl); refine a_neq ?_; refine a_cndF (by first | omega | assumption | decide) ?_; (apply a_ldA 0; exact rfl; exact rfl); refine a_callS0 c2 ?_; (apply a_ldA 1; exact rfl; exact rfl); refine a_callS0 c4 ?_; refine a_add (by first | omega | assumption | decide) (by first | omega | assumption | decide) ?_; refine a_neq ?_; refine a_cndF (by first | omega | assumption | decide) ?_; (apply a_ldA 0; exact rfl; exact rfl); refine a_callS0 c3 ?_; (apply a_ldA 1; exact rfl; exact rfl); refine a_callS0 c5 ?_; refine a_add (by first | omega | assumption | decide) (by first | omega | assumption | decide) ?_; refine a_neq ?_; refine a_cndF (by first | omega | assumption | decide) ?_; refine a_add (by first | omega | assumption | decide) (by first | omega | assumption | decide) ?_)
          exact hK (i + 1) _ _ (by omega) (by omega) (by first | exact Gl.refl _ _ | exact Gl.drop (by repeat (first | exact List.Sublist.refl _ | exact List.Sublist.slnil | apply List.Sublist.cons_cons | apply List.Sublist.cons)))
        · rw [if_neg h4] at c1
          have c1 : AFn pr 23 [(Tm.mk op ⟨#[]⟩ m [t]).d] [] (.ret (.tuple [.i 0, .i 3])) := c1
          ((apply a_ldA 0; exact rfl; exact rfl); refine a_call0 c1 ?_; (apply a_ext; exact rfl); (apply a_ext; exact rfl); refine a_eql ?_; refine a_idxJ i o2 ?_; (apply a_ld1p; exact rfl); refine a_eql ?_; refine a_neqB ?_)
          refine a_cndbF (by simp [h4]) ?_
          (refine a_eql ?_; refine a_cndbF rfl ?_; (apply a_ldA 0; exact rfl; exact rfl); refine a_callS0 c2 ?_; (apply a_ldA 1; exact rfl; exact rfl); refine a_callS0 c4 ?_; refine a_add (by first | omega | assumption | decide) (by first | omega | assumption | decide) ?_; refine a_neq ?_; refine a_cndF (by first | omega | assumption | decide) ?_; (apply a_ldA 0; exact rfl; exact rfl); refine a_callS0 c3 ?_; (apply a_ldA 1; exact rfl; exact rfl); refine a_callS0 c5 ?_; refine a_add (by first | omega | assumption | decide) (by first | omega | assumption | decide) ?_; refine a_neq ?_; refine a_cndF (by first | omega | assumption | decide) ?_; refine a_add (by first | omega | assumption | decide) (by first | omega | assumption | decide) ?_)
          exact hK (i + 1) _ _ (by omega) (by omega) (by first | exact Gl.refl _ _ | exact Gl.drop (by repeat (first | exact List.Sublist.refl _ | exact List.Sublist.slnil | apply List.Sublist.cons_cons | apply List.Sublist.cons)))
      · (refine a_idxJ i o1 ?_; (apply a_ld1p; exact rfl); refine a_eql ?_)
        refine a_cnd (fun h6 => ?_) (fun h6 => ?_)
        · (refine a_fld ?_; (apply a_st 0 _; exact rfl; exact rfl; exact rfl; exact rfl; (try dsimp only [afill, aparts, cl, chunk, List.take, List.drop, List.nil_append, List.cons_append, List.append_nil, List.length_cons, List.length_nil, Nat.zero_add, Nat.reduceAdd, Nat.reduceMul]); try exact rfl))
          exact hJ n _ _ (fun h7 => by rw [p6.2 h6] at h7; cases h7) (by first | exact Gl.refl _ _ | exact Gl.drop (by repeat (first | exact List.Sublist.refl _ | exact List.Sublist.slnil | apply List.Sublist.cons_cons | apply List.Sublist.cons)))
        · exact hJ 0 _ _ (fun _ => rfl) (by first | exact Gl.refl _ _ | exact Gl.drop (by repeat (first | exact List.Sublist.refl _ | exact List.Sublist.slnil | apply List.Sublist.cons_cons | apply List.Sublist.cons)))
    · rfl
  · (refine a_neq ?_)
    refine a_cnd (fun h1 => ?_) (fun h1 => ?_)
    · rfl
    obtain ⟨hs, hd, hr, _⟩ := sortF_ok (t := t) (by omega)
    ((apply a_ldA 0; exact rfl; exact rfl); refine a_call0 (c25r hs) ?_; refine a_geq ?_)
    refine a_cnd (fun h2 => ?_) (fun h2 => ?_)
    · rfl
    ((apply a_ldA 0; exact rfl; exact rfl); refine a_call0 (c24r hd) ?_; refine a_geq ?_)
    refine a_cnd (fun h3 => ?_) (fun h3 => ?_)
    · rfl
    exact hJ () _ _ ⟨by omega, by omega, hr⟩ (by first | exact Gl.refl _ _ | exact Gl.drop (by repeat (first | exact List.Sublist.refl _ | exact List.Sublist.slnil | apply List.Sublist.cons_cons | apply List.Sublist.cons)))
end Go.Proofs.YtlonmopppgadgaaDoor
