/- Eval: what a term is in a world. -/
import Derived.Test.YtlonmopppgadgaaDoorE2
import Derived.Test.YtlonmopppgadgaaDoorC3
set_option maxRecDepth 100000
set_option linter.unusedVariables false
namespace Go.V
def evalF (t : Tm) (w : Wd) : Vl × Int :=
  if (sortF t).2 ≠ 0 then (vz, (sortF t).2) else if rightW w = false then (vz, 1) else match evV w t with | .ok v => (v, 0) | .error e => (vz, e)
theorem sort_pos {op : Int} (h1 : 1 ≤ op) (h2 : op ≤ 28) : (shpAt op).sort ≠ 0 := by
  have : ∀ k : Fin 29, 1 ≤ k.1 → (shpAt (k.1 : Int)).sort ≠ 0 := by decide
  have h := this ⟨op.toNat, by omega⟩ (by simp only; omega)
  simp only [Int.toNat_of_nonneg (show 0 ≤ op by omega)] at h
  exact h
theorem right_self {t : Tm} (h : rightT t 0 = true) : rightT t (shpAt t.op).sort = true ∧ (shpAt t.op).sort ≠ 0 := by
  have := (right_iff t 0).1 h
  exact ⟨right_of h rfl, sort_pos this.op1 this.op2⟩
end Go.V
namespace Go.Proofs.YtlonmopppgadgaaDoor
open Go Go.V
theorem c53n {b b' : Nat} {L : List Bx} : ADef pr 53 [.p b 0, .p b' 0] none L (fun m' L' => m' = none ∧ L' = L) := by
  refine s53 ?_
  unfold A53
  exact ⟨rfl, rfl⟩
theorem c53p {b b' : Nat} {x0 x1 x2 x3 y : D} {e : Int} {M : List Bx} : ADef pr 53 [.p b 0, .p b' 0] (some (.ifc 79 (.i e))) (⟨b', [y], .box⟩ :: ⟨b, [x0, x1, x2, x3], .box⟩ :: M)
    (fun m' L' => m' = none ∧ L' = ⟨b', [.i e], .box⟩ :: ⟨b, vz.cs, .box⟩ :: M) := by
  refine s53 ?_
  unfold A53
  refine a_neIh ?_
  (refine a_cndbT rfl ?_; refine a_tasT ?_; (apply a_ext; exact rfl); (apply a_ext; exact rfl); refine a_not ?_; refine a_cndbF rfl ?_; refine a_bldV0 rfl rfl ?_; refine a_stA 1 rfl rfl rfl rfl ?_; refine a_stA 0 rfl rfl rfl rfl ?_)
  exact ⟨rfl, rfl⟩
theorem c27 (t : Tm) (w : Wd) : AFn pr 27 [t.d, w.d] [] (.ret (.tuple [(evalF t w).1.d, .i (evalF t w).2])) := by
  refine AFn.small fun hs => AFn.of (s27 ?_)
  unfold A27
  refine a_bxv fun z1 => ?_
  refine a_bxv fun z2 => ?_
  refine a_bx fun z3 => ?_
  refine a_bx fun z4 => ?_
  have hc := c23 t
  unfold evalF
  ((apply a_ldA 3; exact rfl; exact rfl); refine a_call0 (c23 _) ?_; (apply a_ext; exact rfl); (apply a_ext; exact rfl); refine a_neq ?_)
  refine a_cnd (fun h1 => ?_) (fun h1 => ?_)
  · rw [if_pos h1]
    (refine a_bldV0 rfl rfl ?_; refine a_stA 1 rfl rfl rfl rfl ?_; (apply a_st 0 _; exact rfl; exact rfl; exact rfl; exact rfl; (try dsimp only [afill, aparts, cl, chunk, List.take, List.drop, List.nil_append, List.cons_append, List.append_nil, List.length_cons, List.length_nil, Nat.zero_add, Nat.reduceAdd, Nat.reduceMul]); try exact rfl); (apply a_ldA 1; exact rfl; exact rfl); (apply a_ld1 0; exact rfl; exact rfl))
    rfl
  rw [if_neg h1]
  ((apply a_ldA 2; exact rfl; exact rfl); refine a_call0 (c29 _) ?_; refine a_not ?_)
  have hso := Classical.not_not.1 h1
  cases hw : rightW w with
  | false =>
    (refine a_cndbT rfl ?_; refine a_bldV0 rfl rfl ?_; refine a_stA 1 rfl rfl rfl rfl ?_; (apply a_st 0 _; exact rfl; exact rfl; exact rfl; exact rfl; (try dsimp only [afill, aparts, cl, chunk, List.take, List.drop, List.nil_append, List.cons_append, List.append_nil, List.length_cons, List.length_nil, Nat.zero_add, Nat.reduceAdd, Nat.reduceMul]); try exact rfl); (apply a_ldA 1; exact rfl; exact rfl); (apply a_ld1 0; exact rfl; exact rfl))
    rfl
  | true =>
    obtain ⟨_, _, hr, _⟩ := sortF_ok hso
    obtain ⟨r1, r2⟩ := right_self hr
    have g := c54 hw t r2 r1
    rw [if_neg (by simp)]
    (refine a_cndbF rfl ?_; (apply a_ldA 2; exact rfl; exact rfl); refine a_bldWd rfl rfl ?_; (apply a_ldA 3; exact rfl; exact rfl))
    cases hv : evV w t with
    | ok v =>
      rw [hv] at g
      refine a_call0 g ?_
      (refine a_stA 1 rfl rfl rfl rfl ?_; refine a_stA 0 rfl rfl rfl rfl ?_)
      refine ADef.mono c53n ?_
      rintro m' L' ⟨rfl, rfl⟩
      (refine a_end ?_; (apply a_ldA 1; exact rfl; exact rfl); (apply a_ld1 0; exact rfl; exact rfl))
      rfl
    | error e =>
      rw [hv] at g
      refine a_callP g ?_
      refine ADef.mono c53p ?_
      rintro m' L' ⟨rfl, rfl⟩
      (refine a_end ?_; (apply a_ldA 1; exact rfl; exact rfl); (apply a_ld1 0; exact rfl; exact rfl))
      rfl
theorem c26 : AFn pr 26 [] [] (.ret (.b true)) := by
  refine AFn.of (s26 ?_)
  unfold A26
  (refine a_rowBS3 rfl ?_; refine a_bldV rfl rfl ?_; refine a_bldNv rfl rfl ?_; refine a_bldV0 rfl rfl ?_; refine a_bldNv rfl rfl ?_; refine a_rowNS2 rfl ?_; refine a_bldWd rfl rfl ?_; refine a_bx fun z1 => ?_; refine a_stA 0 rfl rfl rfl rfl ?_; refine a_bldT0 rfl rfl ?_; refine a_bx fun z2 => ?_; refine a_stA 0 rfl rfl rfl rfl ?_; refine a_bldT0 rfl rfl ?_; refine a_bx fun z3 => ?_; refine a_stA 0 rfl rfl rfl rfl ?_; (apply a_ldA 1; exact rfl; exact rfl); (apply a_ldA 0; exact rfl; exact rfl); refine a_rowS1 rfl ?_; refine a_bldT rfl rfl ?_; refine a_rowS2 rfl ?_; refine a_bldT rfl rfl ?_; refine a_rowS1 rfl ?_; refine a_bldT rfl rfl ?_; refine a_bx fun z4 => ?_; refine a_stA 0 rfl rfl rfl rfl ?_; (apply a_ldA 0; exact rfl; exact rfl); (apply a_ldA 3; exact rfl; exact rfl); refine a_call0 (c27 _ _) ?_; (apply a_ext; exact rfl); (apply a_ext; exact rfl); refine a_bx fun z5 => ?_; refine a_stA 0 rfl rfl rfl rfl ?_; refine a_bldT0 rfl rfl ?_; (apply a_ldA 4; exact rfl; exact rfl); refine a_call0 (c27 _ _) ?_; (apply a_ext; exact rfl); (apply a_ext; exact rfl); refine a_bx fun z6 => ?_; refine a_stA 0 rfl rfl rfl rfl ?_; (apply a_ldA 3; exact rfl; exact rfl); (apply a_ldA 4; exact rfl; exact rfl); refine a_rowS2 rfl ?_; refine a_bldT rfl rfl ?_; (apply a_ldA 5; exact rfl; exact rfl); refine a_call0 (c27 _ _) ?_; (apply a_ext; exact rfl); (apply a_ext; exact rfl); refine a_bx fun z7 => ?_; refine a_stA 0 rfl rfl rfl rfl ?_; (apply a_ldA 3; exact rfl; exact rfl); refine a_bldW0 rfl rfl ?_; refine a_call0 (c27 _ _) ?_; (apply a_ext; exact rfl); (apply a_ext; exact rfl); refine a_bx fun z8 => ?_; refine a_stA 0 rfl rfl rfl rfl ?_; refine a_fld ?_; (apply a_ld1 3; exact rfl; exact rfl); refine a_eql ?_; refine a_cndbT rfl ?_; refine a_fld ?_; (apply a_ld1 3; exact rfl; exact rfl); refine a_eql ?_; refine a_cndbT rfl ?_; refine a_eql ?_; refine a_cndbT rfl ?_; refine a_eql ?_; refine a_cndbT rfl ?_; refine a_fld ?_; (apply a_ld1 1; exact rfl; exact rfl); refine a_eql ?_; refine a_cndbT rfl ?_; refine a_fld ?_; (apply a_ld1 1; exact rfl; exact rfl); refine a_not ?_; refine a_cndbT rfl ?_; refine a_eql ?_; refine a_cndbT rfl ?_; refine a_eql ?_; refine a_cndbT rfl ?_; (apply a_ldA 7; exact rfl; exact rfl); refine a_call0 (c29 _) ?_)
  exact ret_b (by kernel_rfl)
end Go.Proofs.YtlonmopppgadgaaDoor
