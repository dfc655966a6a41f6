/- Contracts: the names of a term, gathered, sorted, each told once. -/
import Derived.Test.YtaigilchnadmpaaDoorN0
import Derived.Test.YtaigilchnadmpaaDoorW2
import Derived.Test.YtaigilchnadmpaaDoorC3
set_option maxRecDepth 100000
set_option linter.unusedVariables false
namespace Go.Proofs.YtaigilchnadmpaaDoor
open Go Go.V
theorem c42 {s : ByteArray} : AFn pr 42 [.s s] [] (.ret (.b false)) := by
  refine AFn.of (s42 ?_)
  unfold A42
  (refine a_neqS ?_)
  exact ret_b (by simp)
theorem c43 {n : Int} : AFn pr 43 [.i n] [] (.ret (.b false)) := by
  refine AFn.of (s43 ?_)
  unfold A43
  (refine a_neq ?_)
  exact ret_b (by simp)
theorem c25 {a b : List UInt8} : AFn pr 25 [.s (str a), .s (str b)] [] (.ret (.i (cmpS a b))) := by
  refine AFn.of (s25 ?_)
  unfold A25
  (refine a_call0 (c42) ?_; refine a_call0 (c42) ?_; refine a_cndbF rfl ?_; refine a_cndbF rfl ?_)
  refine a_lssS ?_
  unfold cmpS
  refine a_cndb (fun h1 => ?_) (fun h1 => ?_)
  · rw [h1]; rfl
  rw [h1]
  refine a_gtrS ?_
  refine a_cndb (fun h2 => ?_) (fun h2 => ?_)
  · rw [h2]; rfl
  · rw [h2]; rfl
theorem c26 {a b : Int} : AFn pr 26 [.i a, .i b] [] (.ret (.i (cmpI a b))) := by
  refine AFn.of (s26 ?_)
  unfold A26
  (refine a_call0 (c43) ?_; refine a_call0 (c43) ?_; refine a_cndbF rfl ?_; refine a_cndbF rfl ?_; refine a_lss ?_)
  unfold cmpI
  refine a_cnd (fun h1 => ?_) (fun h1 => ?_)
  · rw [if_pos h1]
  rw [if_neg h1]
  (refine a_gtr ?_)
  refine a_cnd (fun h2 => ?_) (fun h2 => ?_)
  · rw [if_pos h2]
  · rw [if_neg h2]
theorem c24 {x y : Int} : AFn pr 24 [.row 1 [[.i x], [.i y]]] [] (.ret (.i (if x ≠ 0 then x else y))) := by
  refine AFn.of (s24 ?_)
  unfold A24
  (refine a_lenL ?_)
  refine a_lp (σ := Nat) (fun i => [.i i]) (fun _ => []) (fun i => i ≤ 2 ∧ (1 ≤ i → x = 0) ∧ (2 ≤ i → y = 0)) (fun i => 2 - i) 0 (by first | exact Gl.refl _ _ | exact Gl.drop (by repeat (first | exact List.Sublist.refl _ | exact List.Sublist.slnil | apply List.Sublist.cons_cons | apply List.Sublist.cons))) ⟨by omega, by omega, by omega⟩ ?_
  rintro i K ⟨hi, h1, h2⟩ hK
  dsimp only [aix0, aix1, aix2, aix3, aix4, aix5, aix6, aix7, aix8]
  have hl : ([[D.i x], [D.i y]] : List (List D)).length = 2 := rfl
  (refine a_lss ?_)
  refine a_cnd (fun h => ?_) (fun h => ?_)
  · have hi' : i = 0 ∨ i = 1 := by omega
    rcases hi' with rfl | rfl
    · refine V.a_idx 0 [.i x] rfl ?_
      ((apply a_ld1p; exact rfl); refine a_neq ?_)
      refine a_cnd (fun h3 => ?_) (fun h3 => ?_)
      · rw [if_pos h3]
      (refine a_add (by first | omega | assumption | decide) (by first | omega | assumption | decide) ?_)
      exact hK 1 _ _ ⟨by omega, fun _ => by omega, by omega⟩ (by omega) (by first | exact Gl.refl _ _ | exact Gl.drop (by repeat (first | exact List.Sublist.refl _ | exact List.Sublist.slnil | apply List.Sublist.cons_cons | apply List.Sublist.cons)))
    · refine V.a_idx 1 [.i y] rfl ?_
      ((apply a_ld1p; exact rfl); refine a_neq ?_)
      refine a_cnd (fun h3 => ?_) (fun h3 => ?_)
      · rw [if_neg (by simpa using h1 (by omega))]
      (refine a_add (by first | omega | assumption | decide) (by first | omega | assumption | decide) ?_)
      exact hK 2 _ _ ⟨by omega, fun _ => h1 (by omega), fun _ => by omega⟩ (by omega) (by first | exact Gl.refl _ _ | exact Gl.drop (by repeat (first | exact List.Sublist.refl _ | exact List.Sublist.slnil | apply List.Sublist.cons_cons | apply List.Sublist.cons)))
  · rw [if_neg (by simpa using h1 (by omega)), h2 (by omega)]
theorem c23 (x y : Nm) : AFn pr 23 [.agg (Nm.cs x), .agg (Nm.cs y)] [] (.ret (.i (cmpN x y))) := by
  refine AFn.of (s23 ?_)
  unfold A23
  (refine a_bxv fun z1 => ?_; refine a_bxv fun z2 => ?_; refine a_fld ?_; (apply a_ld1 1; exact rfl; exact rfl); refine a_fld ?_; (apply a_ld1 0; exact rfl; exact rfl); refine a_callS0 (c25) ?_; refine a_fld ?_; refine a_fld ?_; (apply a_ld1 1; exact rfl; exact rfl); refine a_fld ?_; refine a_fld ?_; (apply a_ld1 0; exact rfl; exact rfl); refine a_callS0 (c26) ?_; (apply a_bldF _; exact rfl; (try dsimp only [afill, aparts, cl, chunk, List.take, List.drop, List.nil_append, List.cons_append, List.append_nil, List.length_cons, List.length_nil, Nat.zero_add, Nat.reduceAdd, Nat.reduceMul]); try exact rfl); refine a_callS0 (c24) ?_)
  rfl
theorem c29 (x y : Nm) {z : Nat} : AFn pr 29 [.agg (Nm.cs x), .agg (Nm.cs y), .p z 0] [⟨z, [.fn 23 [] []], .box⟩] (.ret (.b (decide (x = y)))) := by
  refine AFn.ofL (s29 ?_)
  unfold A29
  (refine a_bxv fun z1 => ?_; refine a_bxv fun z2 => ?_; (apply a_ld1 2; exact rfl; exact rfl); (apply a_ldA 1; exact rfl; exact rfl); (apply a_ldA 0; exact rfl; exact rfl); refine a_call0 (c23 x y) ?_; refine a_eql ?_)
  exact ⟨ret_b (decide_eq_decide.2 (cmpN_zero x y)), (by repeat (first | exact List.Sublist.refl _ | exact List.Sublist.slnil | apply List.Sublist.cons_cons | apply List.Sublist.cons))⟩
end Go.Proofs.YtaigilchnadmpaaDoor
