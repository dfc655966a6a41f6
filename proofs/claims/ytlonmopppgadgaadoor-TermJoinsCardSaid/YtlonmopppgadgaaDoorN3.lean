/- Of two terms put together. -/
import Derived.Test.YtlonmopppgadgaaDoorN1
import Derived.Test.YtlonmopppgadgaaDoorP1
set_option linter.unusedVariables false
namespace Go.V
theorem rising_len : ∀ {m l : List Nm}, Rising l → Rising m → (∀ x ∈ l, x ∈ m) → l.length ≤ m.length
  | m, [], _, _, _ => Nat.zero_le _
  | [], x :: l, _, _, h => absurd (h x (by simp)) (by simp)
  | y :: m, x :: l, h1, h2, h => by
    obtain ⟨a1, a2⟩ := List.pairwise_cons.1 h1
    obtain ⟨b1, b2⟩ := List.pairwise_cons.1 h2
    by_cases e : x = y
    · subst e
      have := rising_len (m := m) (l := l) a2 b2 fun z hz => by
        rcases List.mem_cons.1 (h z (by simp [hz])) with rfl | h3
        · have := a1 z hz; rw [ltN_irrefl] at this; cases this
        · exact h3
      rw [List.length_cons, List.length_cons]; omega
    · have hx : x ∈ m := (List.mem_cons.1 (h x (by simp))).resolve_left e
      have hyx := b1 x hx
      have := rising_len (m := m) (l := x :: l) h1 b2 fun z hz => by
        rcases List.mem_cons.1 (h z hz) with rfl | h3
        · rcases List.mem_cons.1 hz with e' | hz
          · exact absurd e'.symm e
          · have := ltN_trans hyx (a1 z hz); rw [ltN_irrefl] at this; cases this
        · exact h3
      rw [List.length_cons (as := m)]; omega
theorem size_mk2 (op : Int) (t u : Tm) : (mk op [t, u]).size = t.size + u.size + 1 := by unfold mk; rw [Tm.size_mk, Tm.sizeL_cons, Tm.sizeL_cons, Tm.sizeL_nil]; omega
theorem dep_mk2' (op : Int) (t u : Tm) : (mk op [t, u]).dep = max t.dep u.dep + 1 := by unfold mk; rw [Tm.dep_mk, Tm.depL_cons, Tm.depL_cons, Tm.depL_nil]; omega
structure Join (t u : Tm) : Prop where
  t0 : rightT t 0 = true
  u0 : rightT u 0 = true
  ts : t.size ≤ 500
  us : u.size ≤ 500
  td : t.dep ≤ 50
  ud : u.dep ≤ 50
theorem jo_sort {t u : Tm} (j : Join t u) (op : Int) : sortF (mk op [t, u]) = if rightT (mk op [t, u]) 0 then ((shpAt op).sort, 0) else (0, 3) := by
  rw [sortF_eq, if_neg (by rw [size_mk2, dep_mk2']; have := j.ts; have := j.us; have := j.td; have := j.ud; omega)]; rfl
theorem jo_t {t u : Tm} (j : Join t u) : sortF t = ((shpAt t.op).sort, 0) := by
  rw [sortF_eq, if_neg (by have := j.ts; have := j.td; omega), if_pos j.t0]
theorem jo_u {t u : Tm} (j : Join t u) : sortF u = ((shpAt u.op).sort, 0) := by
  rw [sortF_eq, if_neg (by have := j.us; have := j.ud; omega), if_pos j.u0]
/-- an operation of two -/
theorem jo_two {t u : Tm} (j : Join t u) {op s1 s2 : Int} (h1 : 1 ≤ op) (h2 : op ≤ 28) (ha : (shpAt op).a = [s1, s2]) (hm : (shpAt op).many = false) (hn : (shpAt op).name = false) (z1 : s1 ≠ 0) (z2 : s2 ≠ 0) :
    rightT (mk op [t, u]) 0 = true ↔ (shpAt t.op).sort = s1 ∧ (shpAt u.op).sort = s2 := by
  constructor
  · intro h
    obtain ⟨x, y, e, hx, hy⟩ := right2 (op := op) (nm := ⟨#[]⟩) (n := 0) (a := [t, u]) h ha hm
    injection e with e1 e; injection e with e2 _
    subst e1; subst e2
    exact ⟨right_sort hx z1, right_sort hy z2⟩
  · rintro ⟨e1, e2⟩
    refine (right_iff _ _).2 ⟨h1, h2, .inl rfl, fun h => ?_, fun _ => rfl, fun _ => rfl, fun _ => ?_, fun i hi => ?_⟩
    · rw [show (mk op [t, u]).op = op from rfl, hn] at h; cases h
    · show 2 = (shpAt op).a.length
      rw [ha]; rfl
    · rw [show (mk op [t, u]).op = op from rfl, ha, hm]
      match i, hi with
      | 0, _ => exact right_of j.t0 e1
      | 1, _ => exact right_of j.u0 e2
theorem jo_many {t u : Tm} (j : Join t u) : rightT (mk 19 [t, u]) 0 = true ↔ (shpAt t.op).sort = 4 ∧ (shpAt u.op).sort = 4 := by
  constructor
  · intro h
    have := rightM (op := 19) (nm := ⟨#[]⟩) (n := 0) (a := [t, u]) h rfl rfl
    exact ⟨right_sort (this t (by simp)) (by decide), right_sort (this u (by simp)) (by decide)⟩
  · rintro ⟨e1, e2⟩
    refine (right_iff _ _).2 ⟨show (1 : Int) ≤ 19 by decide, show (19 : Int) ≤ 28 by decide, .inl rfl, fun h => (by cases h), fun _ => rfl, fun _ => rfl, fun h => (by cases h), fun i hi => ?_⟩
    match i, hi with
    | 0, _ => exact right_of j.t0 e1
    | 1, _ => exact right_of j.u0 e2
theorem jo_not {t u : Tm} : ¬ rightT (mk 18 [t, u]) 0 = true := fun h => by
  have := ((right_iff _ _).1 h).len rfl
  exact absurd this (by show ¬ 2 = 1; decide)
theorem join_sort {t u : Tm} (j : Join t u) :
    sortF (mk 19 [t, u]) = (if (shpAt t.op).sort = 4 ∧ (shpAt u.op).sort = 4 then (4, 0) else (0, 3)) ∧
    sortF (mk 4 [t, u]) = (if (shpAt t.op).sort = 1 ∧ (shpAt u.op).sort = 1 then (1, 0) else (0, 3)) ∧
    sortF (mk 11 [t, u]) = (if (shpAt t.op).sort = 2 ∧ (shpAt u.op).sort = 2 then (2, 0) else (0, 3)) ∧
    sortF (mk 18 [t, u]) = (0, 3) ∧
    sortF (mk 25 [t, u]) = (if (shpAt t.op).sort = 3 ∧ (shpAt u.op).sort = 2 then (4, 0) else (0, 3)) := by
  refine ⟨?_, ?_, ?_, ?_, ?_⟩
  · rw [jo_sort j]; simp only [jo_many j]; rfl
  · rw [jo_sort j]; simp only [jo_two j (op := 4) (s1 := 1) (s2 := 1) (by decide) (by decide) rfl rfl rfl (by decide) (by decide)]; rfl
  · rw [jo_sort j]; simp only [jo_two j (op := 11) (s1 := 2) (s2 := 2) (by decide) (by decide) rfl rfl rfl (by decide) (by decide)]; rfl
  · rw [jo_sort j, if_neg jo_not]
  · rw [jo_sort j]; simp only [jo_two j (op := 25) (s1 := 3) (s2 := 2) (by decide) (by decide) rfl rfl rfl (by decide) (by decide)]; rfl
theorem sort_1234 {t : Tm} {m : Int} (h : rightT t m = true) : (shpAt t.op).sort = 1 ∨ (shpAt t.op).sort = 2 ∨ (shpAt t.op).sort = 3 ∨ (shpAt t.op).sort = 4 := by
  have hr := (right_iff _ _).1 h
  exact op_cases (P := fun op => (shpAt op).sort = 1 ∨ (shpAt op).sort = 2 ∨ (shpAt op).sort = 3 ∨ (shpAt op).sort = 4) hr.op1 hr.op2 (by decide)
theorem join_names {t u : Tm} (j : Join t u) (h : sortF (mk 19 [t, u]) = (4, 0)) : (NamesF t).length ≤ (NamesF (mk 19 [t, u])).length ∧ (NamesF u).length ≤ (NamesF (mk 19 [t, u])).length := by
  have e : ∀ x : Tm, (sortF x).2 = 0 → NamesF x = namesT x := fun x h => by unfold NamesF; rw [if_neg (by omega)]
  rw [e t (by rw [jo_t j]), e u (by rw [jo_u j]), e _ (by rw [h])]
  have hm : ∀ x, x ∈ collT (mk 19 [t, u]) ↔ x ∈ collT t ∨ x ∈ collT u := fun x => by
    unfold mk
    rw [collT, if_pos rfl, collL, collL, collL]; simp
  exact ⟨rising_len (namesT_rising _) (namesT_rising _) fun x hx => by rw [namesT_mem] at hx ⊢; exact (hm x).2 (.inl hx),
    rising_len (namesT_rising _) (namesT_rising _) fun x hx => by rw [namesT_mem] at hx ⊢; exact (hm x).2 (.inr hx)⟩
end Go.V
