/- Contracts: the law TermJoins. -/
import Derived.Test.YtlonmopppgadgaaDoorC17
import Derived.Test.YtlonmopppgadgaaDoorN3
import Derived.Test.YtlonmopppgadgaaDoorW5
set_option maxRecDepth 100000
set_option linter.unusedVariables false
namespace Go.Proofs.YtlonmopppgadgaaDoor
open Go Go.V
theorem joins_no {t u : Tm} (h : ¬ ((sortF t).2 = 0 ∧ (sortF u).2 = 0 ∧ sizT t 0 ≤ 500 ∧ sizT u 0 ≤ 500 ∧ deepT t 101 ≤ 50 ∧ deepT u 101 ≤ 50)) : AFn pr 13 [t.d, u.d] [] (.ret (.b true)) := by
  refine AFn.of (s13a ?_)
  unfold A13a
  (refine a_bxv fun z1 => ?_; refine a_bxv fun z2 => ?_; refine a_call0 (c33) ?_; (apply a_ldA 1; exact rfl; exact rfl); refine a_call0 (c23 _) ?_; (apply a_ext; exact rfl); (apply a_ext; exact rfl); (apply a_ldA 0; exact rfl; exact rfl); refine a_call0 (c23 _) ?_; (apply a_ext; exact rfl); (apply a_ext; exact rfl))
  refine a_jn0 fun J => ?_
  (refine a_neq ?_)
  refine a_cnd (fun h1 => ?_) (fun h1 => ?_)
  · rfl
  (refine a_neq ?_)
  refine a_cnd (fun h2 => ?_) (fun h2 => ?_)
  · rfl
  ((apply a_ldA 1; exact rfl; exact rfl); refine a_call0 (c25 _) ?_; refine a_gtr ?_)
  refine a_cnd (fun h3 => ?_) (fun h3 => ?_)
  · rfl
  ((apply a_ldA 0; exact rfl; exact rfl); refine a_call0 (c25 _) ?_; refine a_gtr ?_)
  refine a_cnd (fun h4 => ?_) (fun h4 => ?_)
  · rfl
  ((apply a_ldA 1; exact rfl; exact rfl); refine a_call0 (c24 _) ?_; refine a_gtr ?_)
  refine a_cnd (fun h5 => ?_) (fun h5 => ?_)
  · rfl
  ((apply a_ldA 0; exact rfl; exact rfl); refine a_call0 (c24 _) ?_; refine a_gtr ?_; refine a_cndT (by first | omega | assumption | decide) ?_)
  rfl
theorem afn_sort {x : Tm} {a b : Int} (h : sortF x = (a, b)) : AFn pr 23 [x.d] [] (.ret (.tuple [.i a, .i b])) := by
  have := c23 x
  rw [h] at this; exact this
theorem joins_a {t u : Tm} (j : Join t u) (ht : (shpAt t.op).sort = 4) : AFn pr 13 [t.d, u.d] [] (.ret (.b true)) := by
  obtain ⟨e1, e2, e3, e4, e5⟩ := join_sort j
  have ct := afn_sort (jo_t j)
  have cu := afn_sort (jo_u j)
  have cs := c25r (t := t) (by have := j.ts; omega)
  have cs2 := c25r (t := u) (by have := j.us; omega)
  have cd := c24r (t := t) (by have := j.td; omega)
  have cd2 := c24r (t := u) (by have := j.ud; omega)
  have hts := j.ts
  have hus := j.us
  have htd := j.td
  have hud := j.ud
  rw [ht] at ct e1 e2 e3 e5
  by_cases hu : (shpAt u.op).sort = 4
  · rw [hu] at cu
    simp only [hu, and_self, Int.reduceEq, false_and, if_true, if_false] at e1 e2 e3 e5
    have c1 := afn_sort e1
    have c2 := afn_sort e2
    have c3 := afn_sort e3
    have c4 := afn_sort e4
    have c5 := afn_sort e5
    obtain ⟨n1, n2⟩ := join_names j e1
    have n1 : (NamesF t).length ≤ (NamesF (Tm.mk 19 ⟨#[]⟩ 0 [t, u])).length := n1
    have n2 : (NamesF u).length ≤ (NamesF (Tm.mk 19 ⟨#[]⟩ 0 [t, u])).length := n2
    refine AFn.of (s13a ?_)
    unfold A13a
    (refine a_bxv fun z1 => ?_; refine a_bxv fun z2 => ?_; refine a_call0 (c33) ?_; (apply a_ldA 1; exact rfl; exact rfl); refine a_call0 ct ?_; (apply a_ext; exact rfl); (apply a_ext; exact rfl); (apply a_ldA 0; exact rfl; exact rfl); refine a_call0 cu ?_; (apply a_ext; exact rfl); (apply a_ext; exact rfl); (apply a_jnX; intro J hJ); refine a_neq ?_; refine a_cndbF rfl ?_; refine a_neq ?_; refine a_cndbF rfl ?_; (apply a_ldA 1; exact rfl; exact rfl); refine a_call0 cs ?_; refine a_gtr ?_; refine a_cndF (by first | omega | assumption | decide) ?_; (apply a_ldA 0; exact rfl; exact rfl); refine a_call0 cs2 ?_; refine a_gtr ?_; refine a_cndF (by first | omega | assumption | decide) ?_; (apply a_ldA 1; exact rfl; exact rfl); refine a_call0 cd ?_; refine a_gtr ?_; refine a_cndF (by first | omega | assumption | decide) ?_; (apply a_ldA 0; exact rfl; exact rfl); refine a_call0 cd2 ?_; refine a_gtr ?_; refine a_cndF (by first | omega | assumption | decide) ?_; exact hJ; dsimp only [aix0, aix1, aix2, aix3, aix4, aix5, aix6, aix7, aix8]; (apply a_ldA 1; exact rfl; exact rfl); (apply a_ldA 0; exact rfl; exact rfl); refine a_rowS2 rfl ?_; refine a_bldT rfl rfl ?_; refine a_call0 c1 ?_; (apply a_ext; exact rfl); (apply a_ext; exact rfl); refine a_bldT rfl rfl ?_; refine a_call0 c2 ?_; (apply a_ext; exact rfl); (apply a_ext; exact rfl); refine a_bldT rfl rfl ?_; refine a_call0 c3 ?_; (apply a_ext; exact rfl); (apply a_ext; exact rfl); refine a_bldT rfl rfl ?_; refine a_call0 c4 ?_; (apply a_ext; exact rfl); (apply a_ext; exact rfl); refine a_bldT rfl rfl ?_; refine a_bx fun z3 => ?_; refine a_stA 0 rfl rfl rfl rfl ?_; (apply a_ldA 0; exact rfl; exact rfl); refine a_call0 c5 ?_; (apply a_ext; exact rfl); (apply a_ext; exact rfl); refine a_cndbT rfl ?_; refine a_eql ?_; refine a_eql ?_; refine a_cndbT rfl ?_; refine a_eql ?_; refine a_eqlB ?_; refine a_cndbT rfl ?_; refine a_eql ?_; refine a_eql ?_; refine a_cndbF rfl ?_; refine a_eqlB ?_; refine a_cndbT rfl ?_; refine a_eql ?_; refine a_eql ?_; refine a_cndbF rfl ?_; refine a_eqlB ?_; refine a_cndbT rfl ?_; refine a_eql ?_; refine a_cndbT rfl ?_; refine a_eql ?_; refine a_eql ?_; refine a_cndbF rfl ?_; refine a_eqlB ?_; refine a_cndbT rfl ?_; refine a_neq ?_; refine a_cndbF rfl ?_; refine a_eql ?_; refine a_cndbT rfl ?_; refine a_bldT rfl rfl ?_; refine a_callS0 (c38 _) ?_; refine a_lenL ?_; (apply a_ldA 2; exact rfl; exact rfl); refine a_callS0 (c38 _) ?_; refine a_lenL ?_; (apply a_ldA 1; exact rfl; exact rfl); refine a_callS0 (c38 _) ?_; refine a_lenL ?_; refine a_max ?_; refine a_geq ?_)
    refine a_cndT (by rw [List.length_map, List.length_map, List.length_map]; omega) ?_
    (refine a_neq ?_; refine a_cndbT rfl ?_; refine a_neq ?_; refine a_cndbT rfl ?_)
    try rfl
  · simp only [hu, and_self, and_false, Int.reduceEq, false_and, if_true, if_false] at e1 e2 e3 e5
    have c1 := afn_sort e1
    have c2 := afn_sort e2
    have c3 := afn_sort e3
    have c4 := afn_sort e4
    have c5 := afn_sort e5
    refine AFn.of (s13a ?_)
    unfold A13a
    (refine a_bxv fun z1 => ?_; refine a_bxv fun z2 => ?_; refine a_call0 (c33) ?_; (apply a_ldA 1; exact rfl; exact rfl); refine a_call0 ct ?_; (apply a_ext; exact rfl); (apply a_ext; exact rfl); (apply a_ldA 0; exact rfl; exact rfl); refine a_call0 cu ?_; (apply a_ext; exact rfl); (apply a_ext; exact rfl); (apply a_jnX; intro J hJ); refine a_neq ?_; refine a_cndbF rfl ?_; refine a_neq ?_; refine a_cndbF rfl ?_; (apply a_ldA 1; exact rfl; exact rfl); refine a_call0 cs ?_; refine a_gtr ?_; refine a_cndF (by first | omega | assumption | decide) ?_; (apply a_ldA 0; exact rfl; exact rfl); refine a_call0 cs2 ?_; refine a_gtr ?_; refine a_cndF (by first | omega | assumption | decide) ?_; (apply a_ldA 1; exact rfl; exact rfl); refine a_call0 cd ?_; refine a_gtr ?_; refine a_cndF (by first | omega | assumption | decide) ?_; (apply a_ldA 0; exact rfl; exact rfl); refine a_call0 cd2 ?_; refine a_gtr ?_; refine a_cndF (by first | omega | assumption | decide) ?_; exact hJ; dsimp only [aix0, aix1, aix2, aix3, aix4, aix5, aix6, aix7, aix8]; (apply a_ldA 1; exact rfl; exact rfl); (apply a_ldA 0; exact rfl; exact rfl); refine a_rowS2 rfl ?_; refine a_bldT rfl rfl ?_; refine a_call0 c1 ?_; (apply a_ext; exact rfl); (apply a_ext; exact rfl); refine a_bldT rfl rfl ?_; refine a_call0 c2 ?_; (apply a_ext; exact rfl); (apply a_ext; exact rfl); refine a_bldT rfl rfl ?_; refine a_call0 c3 ?_; (apply a_ext; exact rfl); (apply a_ext; exact rfl); refine a_bldT rfl rfl ?_; refine a_call0 c4 ?_; (apply a_ext; exact rfl); (apply a_ext; exact rfl); refine a_bldT rfl rfl ?_; refine a_bx fun z3 => ?_; refine a_stA 0 rfl rfl rfl rfl ?_; (apply a_ldA 0; exact rfl; exact rfl); refine a_call0 c5 ?_; (apply a_ext; exact rfl); (apply a_ext; exact rfl); refine a_cndbT rfl ?_; refine a_eql ?_; refine a_eql ?_; refine a_cndbT rfl ?_; refine a_eql ?_; refine a_eqlB ?_)
    refine a_cndbT (by simp [hu]) ?_
    (refine a_eql ?_; refine a_eql ?_; refine a_cndbF rfl ?_; refine a_eqlB ?_; refine a_cndbT rfl ?_; refine a_eql ?_; refine a_eql ?_; refine a_cndbF rfl ?_; refine a_eqlB ?_; refine a_cndbT rfl ?_; refine a_eql ?_; refine a_cndbT rfl ?_; refine a_eql ?_; refine a_eql ?_; refine a_cndbF rfl ?_; refine a_eqlB ?_; refine a_cndbT rfl ?_; refine a_neq ?_; refine a_cndbT rfl ?_; refine a_neq ?_; refine a_cndbT rfl ?_; refine a_neq ?_; refine a_cndbT rfl ?_)
    try rfl
theorem joins_b {t u : Tm} (j : Join t u) (ht : (shpAt t.op).sort = 1) : AFn pr 13 [t.d, u.d] [] (.ret (.b true)) := by
  obtain ⟨e1, e2, e3, e4, e5⟩ := join_sort j
  have ct := afn_sort (jo_t j)
  have cu := afn_sort (jo_u j)
  have cs := c25r (t := t) (by have := j.ts; omega)
  have cs2 := c25r (t := u) (by have := j.us; omega)
  have cd := c24r (t := t) (by have := j.td; omega)
  have cd2 := c24r (t := u) (by have := j.ud; omega)
  have hts := j.ts
  have hus := j.us
  have htd := j.td
  have hud := j.ud
  rw [ht] at ct e1 e2 e3 e5
  by_cases hu : (shpAt u.op).sort = 1
  · rw [hu] at cu
    simp only [hu, and_self, Int.reduceEq, false_and, if_true, if_false] at e1 e2 e3 e5
    have c1 := afn_sort e1
    have c2 := afn_sort e2
    have c3 := afn_sort e3
    have c4 := afn_sort e4
    have c5 := afn_sort e5
    refine AFn.of (s13b ?_)
    unfold A13b
    (refine a_bxv fun z1 => ?_; refine a_bxv fun z2 => ?_; refine a_call0 (c33) ?_; (apply a_ldA 1; exact rfl; exact rfl); refine a_call0 ct ?_; (apply a_ext; exact rfl); (apply a_ext; exact rfl); (apply a_ldA 0; exact rfl; exact rfl); refine a_call0 cu ?_; (apply a_ext; exact rfl); (apply a_ext; exact rfl); (apply a_jnX; intro J hJ); refine a_neq ?_; refine a_cndbF rfl ?_; refine a_neq ?_; refine a_cndbF rfl ?_; (apply a_ldA 1; exact rfl; exact rfl); refine a_call0 cs ?_; refine a_gtr ?_; refine a_cndF (by first | omega | assumption | decide) ?_; (apply a_ldA 0; exact rfl; exact rfl); refine a_call0 cs2 ?_; refine a_gtr ?_; refine a_cndF (by first | omega | assumption | decide) ?_; (apply a_ldA 1; exact rfl; exact rfl); refine a_call0 cd ?_; refine a_gtr ?_; refine a_cndF (by first | omega | assumption | decide) ?_; (apply a_ldA 0; exact rfl; exact rfl); refine a_call0 cd2 ?_; refine a_gtr ?_; refine a_cndF (by first | omega | assumption | decide) ?_; exact hJ; dsimp only [aix0, aix1, aix2, aix3, aix4, aix5, aix6, aix7, aix8]; (apply a_ldA 1; exact rfl; exact rfl); (apply a_ldA 0; exact rfl; exact rfl); refine a_rowS2 rfl ?_; refine a_bldT rfl rfl ?_; refine a_call0 c1 ?_; (apply a_ext; exact rfl); (apply a_ext; exact rfl); refine a_bldT rfl rfl ?_; refine a_call0 c2 ?_; (apply a_ext; exact rfl); (apply a_ext; exact rfl); refine a_bldT rfl rfl ?_; refine a_call0 c3 ?_; (apply a_ext; exact rfl); (apply a_ext; exact rfl); refine a_bldT rfl rfl ?_; refine a_call0 c4 ?_; (apply a_ext; exact rfl); (apply a_ext; exact rfl); refine a_bldT rfl rfl ?_; refine a_bx fun z3 => ?_; refine a_stA 0 rfl rfl rfl rfl ?_; (apply a_ldA 0; exact rfl; exact rfl); refine a_call0 c5 ?_; (apply a_ext; exact rfl); (apply a_ext; exact rfl); refine a_cndbT rfl ?_; refine a_eql ?_; refine a_eql ?_; refine a_cndbF rfl ?_; refine a_eqlB ?_; refine a_cndbT rfl ?_; refine a_eql ?_; refine a_eql ?_; refine a_cndbT rfl ?_; refine a_eql ?_; refine a_eqlB ?_; refine a_cndbT rfl ?_; refine a_eql ?_; refine a_eql ?_; refine a_cndbF rfl ?_; refine a_eqlB ?_; refine a_cndbT rfl ?_; refine a_eql ?_; refine a_cndbT rfl ?_; refine a_eql ?_; refine a_eql ?_; refine a_cndbF rfl ?_; refine a_eqlB ?_; refine a_cndbT rfl ?_; refine a_neq ?_; refine a_cndbT rfl ?_; refine a_neq ?_; refine a_cndbF rfl ?_; refine a_eql ?_; refine a_cndbT rfl ?_; refine a_neq ?_; refine a_cndbT rfl ?_)
    try rfl
  · simp only [hu, and_self, and_false, Int.reduceEq, false_and, if_true, if_false] at e1 e2 e3 e5
    have c1 := afn_sort e1
    have c2 := afn_sort e2
    have c3 := afn_sort e3
    have c4 := afn_sort e4
    have c5 := afn_sort e5
    refine AFn.of (s13b ?_)
    unfold A13b
    (refine a_bxv fun z1 => ?_; refine a_bxv fun z2 => ?_; refine a_call0 (c33) ?_; (apply a_ldA 1; exact rfl; exact rfl); refine a_call0 ct ?_; (apply a_ext; exact rfl); (apply a_ext; exact rfl); (apply a_ldA 0; exact rfl; exact rfl); refine a_call0 cu ?_; (apply a_ext; exact rfl); (apply a_ext; exact rfl); (apply a_jnX; intro J hJ); refine a_neq ?_; refine a_cndbF rfl ?_; refine a_neq ?_; refine a_cndbF rfl ?_; (apply a_ldA 1; exact rfl; exact rfl); refine a_call0 cs ?_; refine a_gtr ?_; refine a_cndF (by first | omega | assumption | decide) ?_; (apply a_ldA 0; exact rfl; exact rfl); refine a_call0 cs2 ?_; refine a_gtr ?_; refine a_cndF (by first | omega | assumption | decide) ?_; (apply a_ldA 1; exact rfl; exact rfl); refine a_call0 cd ?_; refine a_gtr ?_; refine a_cndF (by first | omega | assumption | decide) ?_; (apply a_ldA 0; exact rfl; exact rfl); refine a_call0 cd2 ?_; refine a_gtr ?_; refine a_cndF (by first | omega | assumption | decide) ?_; exact hJ; dsimp only [aix0, aix1, aix2, aix3, aix4, aix5, aix6, aix7, aix8]; (apply a_ldA 1; exact rfl; exact rfl); (apply a_ldA 0; exact rfl; exact rfl); refine a_rowS2 rfl ?_; refine a_bldT rfl rfl ?_; refine a_call0 c1 ?_; (apply a_ext; exact rfl); (apply a_ext; exact rfl); refine a_bldT rfl rfl ?_; refine a_call0 c2 ?_; (apply a_ext; exact rfl); (apply a_ext; exact rfl); refine a_bldT rfl rfl ?_; refine a_call0 c3 ?_; (apply a_ext; exact rfl); (apply a_ext; exact rfl); refine a_bldT rfl rfl ?_; refine a_call0 c4 ?_; (apply a_ext; exact rfl); (apply a_ext; exact rfl); refine a_bldT rfl rfl ?_; refine a_bx fun z3 => ?_; refine a_stA 0 rfl rfl rfl rfl ?_; (apply a_ldA 0; exact rfl; exact rfl); refine a_call0 c5 ?_; (apply a_ext; exact rfl); (apply a_ext; exact rfl); refine a_cndbT rfl ?_; refine a_eql ?_; refine a_eql ?_; refine a_cndbF rfl ?_; refine a_eqlB ?_; refine a_cndbT rfl ?_; refine a_eql ?_; refine a_eql ?_; refine a_cndbT rfl ?_; refine a_eql ?_; refine a_eqlB ?_)
    refine a_cndbT (by simp [hu]) ?_
    (refine a_eql ?_; refine a_eql ?_; refine a_cndbF rfl ?_; refine a_eqlB ?_; refine a_cndbT rfl ?_; refine a_eql ?_; refine a_cndbT rfl ?_; refine a_eql ?_; refine a_eql ?_; refine a_cndbF rfl ?_; refine a_eqlB ?_; refine a_cndbT rfl ?_; refine a_neq ?_; refine a_cndbT rfl ?_; refine a_neq ?_; refine a_cndbT rfl ?_; refine a_neq ?_; refine a_cndbT rfl ?_)
    try rfl
theorem joins_c {t u : Tm} (j : Join t u) (ht : (shpAt t.op).sort = 2) : AFn pr 13 [t.d, u.d] [] (.ret (.b true)) := by
  obtain ⟨e1, e2, e3, e4, e5⟩ := join_sort j
  have ct := afn_sort (jo_t j)
  have cu := afn_sort (jo_u j)
  have cs := c25r (t := t) (by have := j.ts; omega)
  have cs2 := c25r (t := u) (by have := j.us; omega)
  have cd := c24r (t := t) (by have := j.td; omega)
  have cd2 := c24r (t := u) (by have := j.ud; omega)
  have hts := j.ts
  have hus := j.us
  have htd := j.td
  have hud := j.ud
  rw [ht] at ct e1 e2 e3 e5
  by_cases hu : (shpAt u.op).sort = 2
  · rw [hu] at cu
    simp only [hu, and_self, Int.reduceEq, false_and, if_true, if_false] at e1 e2 e3 e5
    have c1 := afn_sort e1
    have c2 := afn_sort e2
    have c3 := afn_sort e3
    have c4 := afn_sort e4
    have c5 := afn_sort e5
    refine AFn.of (s13c ?_)
    unfold A13c
    (refine a_bxv fun z1 => ?_; refine a_bxv fun z2 => ?_; refine a_call0 (c33) ?_; (apply a_ldA 1; exact rfl; exact rfl); refine a_call0 ct ?_; (apply a_ext; exact rfl); (apply a_ext; exact rfl); (apply a_ldA 0; exact rfl; exact rfl); refine a_call0 cu ?_; (apply a_ext; exact rfl); (apply a_ext; exact rfl); (apply a_jnX; intro J hJ); refine a_neq ?_; refine a_cndbF rfl ?_; refine a_neq ?_; refine a_cndbF rfl ?_; (apply a_ldA 1; exact rfl; exact rfl); refine a_call0 cs ?_; refine a_gtr ?_; refine a_cndF (by first | omega | assumption | decide) ?_; (apply a_ldA 0; exact rfl; exact rfl); refine a_call0 cs2 ?_; refine a_gtr ?_; refine a_cndF (by first | omega | assumption | decide) ?_; (apply a_ldA 1; exact rfl; exact rfl); refine a_call0 cd ?_; refine a_gtr ?_; refine a_cndF (by first | omega | assumption | decide) ?_; (apply a_ldA 0; exact rfl; exact rfl); refine a_call0 cd2 ?_; refine a_gtr ?_; refine a_cndF (by first | omega | assumption | decide) ?_; exact hJ; dsimp only [aix0, aix1, aix2, aix3, aix4, aix5, aix6, aix7, aix8]; (apply a_ldA 1; exact rfl; exact rfl); (apply a_ldA 0; exact rfl; exact rfl); refine a_rowS2 rfl ?_; refine a_bldT rfl rfl ?_; refine a_call0 c1 ?_; (apply a_ext; exact rfl); (apply a_ext; exact rfl); refine a_bldT rfl rfl ?_; refine a_call0 c2 ?_; (apply a_ext; exact rfl); (apply a_ext; exact rfl); refine a_bldT rfl rfl ?_; refine a_call0 c3 ?_; (apply a_ext; exact rfl); (apply a_ext; exact rfl); refine a_bldT rfl rfl ?_; refine a_call0 c4 ?_; (apply a_ext; exact rfl); (apply a_ext; exact rfl); refine a_bldT rfl rfl ?_; refine a_bx fun z3 => ?_; refine a_stA 0 rfl rfl rfl rfl ?_; (apply a_ldA 0; exact rfl; exact rfl); refine a_call0 c5 ?_; (apply a_ext; exact rfl); (apply a_ext; exact rfl); refine a_cndbT rfl ?_; refine a_eql ?_; refine a_eql ?_; refine a_cndbF rfl ?_; refine a_eqlB ?_; refine a_cndbT rfl ?_; refine a_eql ?_; refine a_eql ?_; refine a_cndbF rfl ?_; refine a_eqlB ?_; refine a_cndbT rfl ?_; refine a_eql ?_; refine a_eql ?_; refine a_cndbT rfl ?_; refine a_eql ?_; refine a_eqlB ?_; refine a_cndbT rfl ?_; refine a_eql ?_; refine a_cndbT rfl ?_; refine a_eql ?_; refine a_eql ?_; refine a_cndbF rfl ?_; refine a_eqlB ?_; refine a_cndbT rfl ?_; refine a_neq ?_; refine a_cndbT rfl ?_; refine a_neq ?_; refine a_cndbT rfl ?_; refine a_neq ?_; refine a_cndbF rfl ?_; refine a_eql ?_)
    try rfl
  · simp only [hu, and_self, and_false, Int.reduceEq, false_and, if_true, if_false] at e1 e2 e3 e5
    have c1 := afn_sort e1
    have c2 := afn_sort e2
    have c3 := afn_sort e3
    have c4 := afn_sort e4
    have c5 := afn_sort e5
    refine AFn.of (s13c ?_)
    unfold A13c
    (refine a_bxv fun z1 => ?_; refine a_bxv fun z2 => ?_; refine a_call0 (c33) ?_; (apply a_ldA 1; exact rfl; exact rfl); refine a_call0 ct ?_; (apply a_ext; exact rfl); (apply a_ext; exact rfl); (apply a_ldA 0; exact rfl; exact rfl); refine a_call0 cu ?_; (apply a_ext; exact rfl); (apply a_ext; exact rfl); (apply a_jnX; intro J hJ); refine a_neq ?_; refine a_cndbF rfl ?_; refine a_neq ?_; refine a_cndbF rfl ?_; (apply a_ldA 1; exact rfl; exact rfl); refine a_call0 cs ?_; refine a_gtr ?_; refine a_cndF (by first | omega | assumption | decide) ?_; (apply a_ldA 0; exact rfl; exact rfl); refine a_call0 cs2 ?_; refine a_gtr ?_; refine a_cndF (by first | omega | assumption | decide) ?_; (apply a_ldA 1; exact rfl; exact rfl); refine a_call0 cd ?_; refine a_gtr ?_; refine a_cndF (by first | omega | assumption | decide) ?_; (apply a_ldA 0; exact rfl; exact rfl); refine a_call0 cd2 ?_; refine a_gtr ?_; refine a_cndF (by first | omega | assumption | decide) ?_; exact hJ; dsimp only [aix0, aix1, aix2, aix3, aix4, aix5, aix6, aix7, aix8]; (apply a_ldA 1; exact rfl; exact rfl); (apply a_ldA 0; exact rfl; exact rfl); refine a_rowS2 rfl ?_; refine a_bldT rfl rfl ?_; refine a_call0 c1 ?_; (apply a_ext; exact rfl); (apply a_ext; exact rfl); refine a_bldT rfl rfl ?_; refine a_call0 c2 ?_; (apply a_ext; exact rfl); (apply a_ext; exact rfl); refine a_bldT rfl rfl ?_; refine a_call0 c3 ?_; (apply a_ext; exact rfl); (apply a_ext; exact rfl); refine a_bldT rfl rfl ?_; refine a_call0 c4 ?_; (apply a_ext; exact rfl); (apply a_ext; exact rfl); refine a_bldT rfl rfl ?_; refine a_bx fun z3 => ?_; refine a_stA 0 rfl rfl rfl rfl ?_; (apply a_ldA 0; exact rfl; exact rfl); refine a_call0 c5 ?_; (apply a_ext; exact rfl); (apply a_ext; exact rfl); refine a_cndbT rfl ?_; refine a_eql ?_; refine a_eql ?_; refine a_cndbF rfl ?_; refine a_eqlB ?_; refine a_cndbT rfl ?_; refine a_eql ?_; refine a_eql ?_; refine a_cndbF rfl ?_; refine a_eqlB ?_; refine a_cndbT rfl ?_; refine a_eql ?_; refine a_eql ?_; refine a_cndbT rfl ?_; refine a_eql ?_; refine a_eqlB ?_)
    refine a_cndbT (by simp [hu]) ?_
    (refine a_eql ?_; refine a_cndbT rfl ?_; refine a_eql ?_; refine a_eql ?_; refine a_cndbF rfl ?_; refine a_eqlB ?_; refine a_cndbT rfl ?_; refine a_neq ?_; refine a_cndbT rfl ?_; refine a_neq ?_; refine a_cndbT rfl ?_; refine a_neq ?_; refine a_cndbT rfl ?_)
    try rfl
theorem joins_d {t u : Tm} (j : Join t u) (ht : (shpAt t.op).sort = 3) : AFn pr 13 [t.d, u.d] [] (.ret (.b true)) := by
  obtain ⟨e1, e2, e3, e4, e5⟩ := join_sort j
  have ct := afn_sort (jo_t j)
  have cu := afn_sort (jo_u j)
  have cs := c25r (t := t) (by have := j.ts; omega)
  have cs2 := c25r (t := u) (by have := j.us; omega)
  have cd := c24r (t := t) (by have := j.td; omega)
  have cd2 := c24r (t := u) (by have := j.ud; omega)
  have hts := j.ts
  have hus := j.us
  have htd := j.td
  have hud := j.ud
  rw [ht] at ct e1 e2 e3 e5
  by_cases hu : (shpAt u.op).sort = 2
  · rw [hu] at cu
    simp only [hu, and_self, Int.reduceEq, false_and, if_true, if_false] at e1 e2 e3 e5
    have c1 := afn_sort e1
    have c2 := afn_sort e2
    have c3 := afn_sort e3
    have c4 := afn_sort e4
    have c5 := afn_sort e5
    refine AFn.of (s13d ?_)
    unfold A13d
    (refine a_bxv fun z1 => ?_; refine a_bxv fun z2 => ?_; refine a_call0 (c33) ?_; (apply a_ldA 1; exact rfl; exact rfl); refine a_call0 ct ?_; (apply a_ext; exact rfl); (apply a_ext; exact rfl); (apply a_ldA 0; exact rfl; exact rfl); refine a_call0 cu ?_; (apply a_ext; exact rfl); (apply a_ext; exact rfl); (apply a_jnX; intro J hJ); refine a_neq ?_; refine a_cndbF rfl ?_; refine a_neq ?_; refine a_cndbF rfl ?_; (apply a_ldA 1; exact rfl; exact rfl); refine a_call0 cs ?_; refine a_gtr ?_; refine a_cndF (by first | omega | assumption | decide) ?_; (apply a_ldA 0; exact rfl; exact rfl); refine a_call0 cs2 ?_; refine a_gtr ?_; refine a_cndF (by first | omega | assumption | decide) ?_; (apply a_ldA 1; exact rfl; exact rfl); refine a_call0 cd ?_; refine a_gtr ?_; refine a_cndF (by first | omega | assumption | decide) ?_; (apply a_ldA 0; exact rfl; exact rfl); refine a_call0 cd2 ?_; refine a_gtr ?_; refine a_cndF (by first | omega | assumption | decide) ?_; exact hJ; dsimp only [aix0, aix1, aix2, aix3, aix4, aix5, aix6, aix7, aix8]; (apply a_ldA 1; exact rfl; exact rfl); (apply a_ldA 0; exact rfl; exact rfl); refine a_rowS2 rfl ?_; refine a_bldT rfl rfl ?_; refine a_call0 c1 ?_; (apply a_ext; exact rfl); (apply a_ext; exact rfl); refine a_bldT rfl rfl ?_; refine a_call0 c2 ?_; (apply a_ext; exact rfl); (apply a_ext; exact rfl); refine a_bldT rfl rfl ?_; refine a_call0 c3 ?_; (apply a_ext; exact rfl); (apply a_ext; exact rfl); refine a_bldT rfl rfl ?_; refine a_call0 c4 ?_; (apply a_ext; exact rfl); (apply a_ext; exact rfl); refine a_bldT rfl rfl ?_; refine a_bx fun z3 => ?_; refine a_stA 0 rfl rfl rfl rfl ?_; (apply a_ldA 0; exact rfl; exact rfl); refine a_call0 c5 ?_; (apply a_ext; exact rfl); (apply a_ext; exact rfl); refine a_cndbT rfl ?_; refine a_eql ?_; refine a_eql ?_; refine a_cndbF rfl ?_; refine a_eqlB ?_; refine a_cndbT rfl ?_; refine a_eql ?_; refine a_eql ?_; refine a_cndbF rfl ?_; refine a_eqlB ?_; refine a_cndbT rfl ?_; refine a_eql ?_; refine a_eql ?_; refine a_cndbF rfl ?_; refine a_eqlB ?_; refine a_cndbT rfl ?_; refine a_eql ?_; refine a_cndbT rfl ?_; refine a_eql ?_; refine a_eql ?_; refine a_cndbT rfl ?_; refine a_eql ?_; refine a_eqlB ?_; refine a_cndbT rfl ?_; refine a_neq ?_; refine a_cndbT rfl ?_; refine a_neq ?_; refine a_cndbT rfl ?_; refine a_neq ?_; refine a_cndbT rfl ?_)
    try rfl
  · simp only [hu, and_self, and_false, Int.reduceEq, false_and, if_true, if_false] at e1 e2 e3 e5
    have c1 := afn_sort e1
    have c2 := afn_sort e2
    have c3 := afn_sort e3
    have c4 := afn_sort e4
    have c5 := afn_sort e5
    refine AFn.of (s13d ?_)
    unfold A13d
    (refine a_bxv fun z1 => ?_; refine a_bxv fun z2 => ?_; refine a_call0 (c33) ?_; (apply a_ldA 1; exact rfl; exact rfl); refine a_call0 ct ?_; (apply a_ext; exact rfl); (apply a_ext; exact rfl); (apply a_ldA 0; exact rfl; exact rfl); refine a_call0 cu ?_; (apply a_ext; exact rfl); (apply a_ext; exact rfl); (apply a_jnX; intro J hJ); refine a_neq ?_; refine a_cndbF rfl ?_; refine a_neq ?_; refine a_cndbF rfl ?_; (apply a_ldA 1; exact rfl; exact rfl); refine a_call0 cs ?_; refine a_gtr ?_; refine a_cndF (by first | omega | assumption | decide) ?_; (apply a_ldA 0; exact rfl; exact rfl); refine a_call0 cs2 ?_; refine a_gtr ?_; refine a_cndF (by first | omega | assumption | decide) ?_; (apply a_ldA 1; exact rfl; exact rfl); refine a_call0 cd ?_; refine a_gtr ?_; refine a_cndF (by first | omega | assumption | decide) ?_; (apply a_ldA 0; exact rfl; exact rfl); refine a_call0 cd2 ?_; refine a_gtr ?_; refine a_cndF (by first | omega | assumption | decide) ?_; exact hJ; dsimp only [aix0, aix1, aix2, aix3, aix4, aix5, aix6, aix7, aix8]; (apply a_ldA 1; exact rfl; exact rfl); (apply a_ldA 0; exact rfl; exact rfl); refine a_rowS2 rfl ?_; refine a_bldT rfl rfl ?_; refine a_call0 c1 ?_; (apply a_ext; exact rfl); (apply a_ext; exact rfl); refine a_bldT rfl rfl ?_; refine a_call0 c2 ?_; (apply a_ext; exact rfl); (apply a_ext; exact rfl); refine a_bldT rfl rfl ?_; refine a_call0 c3 ?_; (apply a_ext; exact rfl); (apply a_ext; exact rfl); refine a_bldT rfl rfl ?_; refine a_call0 c4 ?_; (apply a_ext; exact rfl); (apply a_ext; exact rfl); refine a_bldT rfl rfl ?_; refine a_bx fun z3 => ?_; refine a_stA 0 rfl rfl rfl rfl ?_; (apply a_ldA 0; exact rfl; exact rfl); refine a_call0 c5 ?_; (apply a_ext; exact rfl); (apply a_ext; exact rfl); refine a_cndbT rfl ?_; refine a_eql ?_; refine a_eql ?_; refine a_cndbF rfl ?_; refine a_eqlB ?_; refine a_cndbT rfl ?_; refine a_eql ?_; refine a_eql ?_; refine a_cndbF rfl ?_; refine a_eqlB ?_; refine a_cndbT rfl ?_; refine a_eql ?_; refine a_eql ?_; refine a_cndbF rfl ?_; refine a_eqlB ?_; refine a_cndbT rfl ?_; refine a_eql ?_; refine a_cndbT rfl ?_; refine a_eql ?_; refine a_eql ?_; refine a_cndbT rfl ?_; refine a_eql ?_; refine a_eqlB ?_)
    refine a_cndbT (by simp [hu]) ?_
    (refine a_neq ?_; refine a_cndbT rfl ?_; refine a_neq ?_; refine a_cndbT rfl ?_; refine a_neq ?_; refine a_cndbT rfl ?_)
    try rfl
theorem c13 (t u : Tm) : AFn pr 13 [t.d, u.d] [] (.ret (.b true)) := by
  by_cases h : (sortF t).2 = 0 ∧ (sortF u).2 = 0 ∧ sizT t 0 ≤ 500 ∧ sizT u 0 ≤ 500 ∧ deepT t 101 ≤ 50 ∧ deepT u 101 ≤ 50
  · obtain ⟨h1, h2, h3, h4, h5, h6⟩ := h
    obtain ⟨a1, a2, a3, _⟩ := sortF_ok h1
    obtain ⟨b1, b2, b3, _⟩ := sortF_ok h2
    rw [size_of a1] at h3
    rw [size_of b1] at h4
    rw [deep_of a2] at h5
    rw [deep_of b2] at h6
    have j : Join t u := ⟨a3, b3, by omega, by omega, by omega, by omega⟩
    rcases sort_1234 a3 with e | e | e | e
    · exact joins_b j e
    · exact joins_c j e
    · exact joins_d j e
    · exact joins_a j e
  · exact joins_no h
end Go.Proofs.YtlonmopppgadgaaDoor
