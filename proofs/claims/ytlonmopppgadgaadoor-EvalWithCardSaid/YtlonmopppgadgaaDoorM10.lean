/- A name's value put into a world: the law alone. -/
import Derived.Test.YtlonmopppgadgaaDoorM9
import Derived.Test.YtlonmopppgadgaaDoorE8
set_option linter.unusedVariables false
namespace Go.V
open Go
theorem find_at {nm : ByteArray} {st : Int} : ∀ (l : List Nv) (i : Nat), (findF nm st l i = -1 ∧ ∀ x ∈ l, ¬ (x.nm = nm ∧ x.v.sort = st)) ∨ ∃ j x, findF nm st l i = (i + j : Nat) ∧ l[j]? = some x ∧ x.nm = nm ∧ x.v.sort = st
  | [], i => .inl ⟨rfl, fun x hx => by cases hx⟩
  | x :: r, i => by
    rw [findF]
    by_cases h : x.nm = nm ∧ x.v.sort = st
    · rw [if_pos h]
      exact .inr ⟨0, x, rfl, rfl, h.1, h.2⟩
    · rw [if_neg h]
      rcases find_at r (i + 1) with ⟨h1, h2⟩ | ⟨j, y, h1, h2, h3⟩
      · refine .inl ⟨h1, fun y hy => ?_⟩
        rcases List.mem_cons.1 hy with rfl | hy
        · exact h
        · exact h2 y hy
      · exact .inr ⟨j + 1, y, by rw [h1]; congr 1; omega, h2, h3⟩
/-- either put at the end, no such name being there, or in the place of one of the name and sort -/
theorem put_cases (nm : ByteArray) (v : Vl) (l : List Nv) : (putL nm v l = l ++ [⟨nm, v⟩] ∧ ∀ x ∈ l, ¬ (x.nm = nm ∧ x.v.sort = v.sort)) ∨ ∃ j x, putL nm v l = l.set j ⟨nm, v⟩ ∧ l[j]? = some x ∧ x.nm = nm ∧ x.v.sort = v.sort := by
  unfold putL
  rcases find_at (nm := nm) (st := v.sort) l 0 with ⟨h1, h2⟩ | ⟨j, x, h1, h2, h3⟩
  · rw [h1, if_neg (by decide)]
    exact .inl ⟨rfl, h2⟩
  · rw [h1, if_pos (by omega), Nat.zero_add, Int.toNat_natCast]
    exact .inr ⟨j, x, rfl, h2, h3⟩
def keyN (x : Nv) : ByteArray × Int := (x.nm, x.v.sort)
theorem met_key {x y : Nv} : ∀ {l m : List Nv}, keyN x = keyN y → l.map keyN = m.map keyN → metB x l = metB y m
  | [], [], _, _ => rfl
  | [], _ :: _, _, h => by cases h
  | _ :: _, [], _, h => by cases h
  | a :: l, b :: m, hx, h => by
    rw [List.map_cons, List.map_cons] at h
    injection h with h1 h2
    have ih := met_key hx h2
    have hx1 := congrArg Prod.fst hx
    have hx2 := congrArg Prod.snd hx
    have h11 := congrArg Prod.fst h1
    have h12 := congrArg Prod.snd h1
    simp only [keyN] at hx1 hx2 h11 h12
    unfold metB at ih ⊢
    rw [List.any_cons, List.any_cons, ih, h11, h12, hx1, hx2]
theorem rightL_key {n : Int} : ∀ {l m seen seen' : List Nv}, l.map keyN = m.map keyN → seen.map keyN = seen'.map keyN → (∀ x ∈ m, isF x.v n = true) → rightLW n seen l = true → rightLW n seen' m = true
  | [], [], _, _, _, _, _, _ => rfl
  | [], _ :: _, _, _, h, _, _, _ => by cases h
  | _ :: _, [], _, _, h, _, _, _ => by cases h
  | a :: l, b :: m, seen, seen', h, hs, hi, hr => by
    rw [List.map_cons, List.map_cons] at h
    injection h with h1 h2
    rw [rightLW] at hr ⊢
    simp only [Bool.and_eq_true] at hr
    have h11 : a.nm = b.nm := congrArg Prod.fst h1
    rw [← met_key h1 hs, ← h11, hr.1.1.1, hr.1.2, hi b (by simp), rightL_key h2 (seen := seen ++ [a]) (seen' := seen' ++ [b]) (by rw [List.map_append, List.map_append, hs, List.map_cons, List.map_cons, h1]) (fun x hx => hi x (by simp [hx])) hr.2]
    rfl
theorem rightL_app {n : Int} {x : Nv} : ∀ (l seen : List Nv), rightLW n seen (l ++ [x]) = (rightLW n seen l && (nameF x.nm.data.toList && isF x.v n && !metB x (seen ++ l)))
  | [], seen => by rw [List.nil_append, rightLW, rightLW, rightLW, List.append_nil, Bool.and_true, Bool.true_and]
  | y :: r, seen => by
    rw [List.cons_append, rightLW, rightLW, rightL_app r (seen ++ [y]), List.append_assoc]
    simp only [List.cons_append, List.nil_append, Bool.and_assoc]
section
variable {w : Wd} {nm : ByteArray} {v : Vl}
theorem with_right (hw : rightW w = true) (hnm : nameF nm.data.toList = true) (hv : isF v w.nodes = true) (hl : w.names.length < 64) : rightW (withF w nm v) = true := by
  obtain ⟨h1, h2, h3, h4⟩ := rightW_spec hw
  unfold rightW withF
  simp only
  rw [decide_eq_true h1, decide_eq_true h2]
  rcases put_cases nm v w.names with ⟨e, hno⟩ | ⟨j, x, e, hj, hx1, hx2⟩
  · rw [e, rightL_app, h4, hnm, hv, List.nil_append]
    have hm : metB (Nv.mk nm v) w.names = false := by
      unfold metB
      rw [List.any_eq_false]
      intro y hy
      rw [Bool.and_eq_true, decide_eq_true_eq, decide_eq_true_eq]
      exact hno y hy
    rw [hm, List.length_append, decide_eq_true (by simp only [List.length_singleton]; omega)]
    rfl
  · obtain ⟨hlt, hjx⟩ := List.getElem?_eq_some_iff.1 hj
    rw [e, List.length_set, decide_eq_true h3]
    refine rightL_key (l := w.names) (seen := []) ?_ rfl ?_ h4
    · apply List.ext_getElem
      · simp
      · intro i q1 q2
        rw [List.getElem_map, List.getElem_map, List.getElem_set]
        split
        · next h =>
          subst h
          rw [hjx]
          exact Prod.ext hx1 hx2
        · rfl
    · intro y hy
      rcases List.mem_or_eq_of_mem_set hy with hy | rfl
      · exact (rightLW_mem h4 y hy).2
      · exact hv
theorem get_set {nm' : ByteArray} {s : Int} (hne : nm' ≠ nm) : ∀ (l : List Nv) (j : Nat) (x : Nv), l[j]? = some x → x.nm = nm → getF (l.set j ⟨nm, v⟩) nm' s = getF l nm' s
  | [], j, x, h, _ => by cases h
  | y :: r, 0, x, h, hx => by
    injection h with h
    subst h
    rw [List.set_cons_zero]
    unfold getF
    rw [List.find?_cons, List.find?_cons]
    have e1 : (decide (nm = nm') && decide (v.sort = s)) = false := by rw [decide_eq_false (Ne.symm hne), Bool.false_and]
    have e2 : (decide (y.nm = nm') && decide (y.v.sort = s)) = false := by rw [hx, decide_eq_false (Ne.symm hne), Bool.false_and]
    simp only [e1, e2]
  | y :: r, j + 1, x, h, hx => by
    have ih := get_set hne r j x (by simpa using h) hx (s := s)
    rw [List.set_cons_succ]
    unfold getF at ih ⊢
    rw [List.find?_cons, List.find?_cons]
    split
    · rfl
    · exact ih
theorem with_get {nm' : ByteArray} {s : Int} (hne : nm' ≠ nm) : getF (withF w nm v).names nm' s = getF w.names nm' s := by
  show getF (putL nm v w.names) nm' s = _
  rcases put_cases nm v w.names with ⟨e, hno⟩ | ⟨j, x, e, hj, hx1, hx2⟩
  · rw [e]
    unfold getF
    rw [List.find?_append]
    have e1 : ([Nv.mk nm v].find? fun x => decide (x.nm = nm') && decide (x.v.sort = s)) = none := by
      rw [List.find?_eq_none]
      intro y hy
      rw [List.mem_singleton.1 hy, decide_eq_false (Ne.symm hne)]
      simp
    rw [e1, Option.or_none]
  · rw [e]
    exact get_set hne _ j x hj hx1
/-- who puts a value to a name that is not in a term changes nothing of it -/
theorem apart_eval {t : Tm} (hw : rightW w = true) (hw' : rightW (withF w nm v) = true) (h : ∀ x ∈ NamesF t, str x.1 ≠ nm) : evalF t (withF w nm v) = evalF t w := by
  unfold evalF
  by_cases h0 : (sortF t).2 = 0
  · rw [if_neg (by rw [h0]; decide), if_neg (by rw [hw']; decide), if_neg (by rw [h0]; decide), if_neg (by rw [hw]; decide)]
    obtain ⟨_, _, r, _⟩ := sortF_ok h0
    have hn : NamesF t = namesT t := by unfold NamesF; rw [if_neg (by rw [h0]; decide)]
    rw [ev_apart (w := w) (u := withF w nm v) rfl t 0 r fun x hx => with_get (h x (by rw [hn, namesT_mem]; exact hx))]
  · rw [if_pos h0, if_pos h0]
/-- what a value says of the names that are there -/
theorem there_eval {t : Tm} (hw : rightW w = true) (h0 : (sortF t).2 = 0) :
    ((evalF t w).2 = 0 ∧ (∀ x ∈ NamesF t, (getF w.names (str x.1) (shpAt x.2).sort).isSome = true) ∧ OkV w (sortF t).1 (evalF t w).1) ∨
      ((evalF t w).1 = vz ∧ ((evalF t w).2 = 5 ∨ (evalF t w).2 = 4 ∧ ∃ x ∈ NamesF t, (getF w.names (str x.1) (shpAt x.2).sort).isSome = false)) := by
  obtain ⟨_, _, r, q⟩ := sortF_ok h0
  obtain ⟨g, n⟩ := right_self r
  rw [← q] at g n
  have e : sortF t = ((sortF t).1, 0) := Prod.ext rfl h0
  have hn : NamesF t = namesT t := by unfold NamesF; rw [if_neg (by rw [h0]; decide)]
  obtain ⟨t1, t2⟩ := ev_there (w := w) t 0 r
  rw [evalF_of hw e, hn]
  cases hv : evV w t with
  | ok u => exact .inl ⟨rfl, fun x hx => t1 u hv x ((namesT_mem _ _).1 hx), evV_ok hw g n hv⟩
  | error z =>
    refine .inr ⟨rfl, ?_⟩
    rcases evV_err t z hv with rfl | rfl
    · obtain ⟨x, hx, hs⟩ := t2 hv
      exact .inr ⟨rfl, x, (namesT_mem _ _).2 hx, hs⟩
    · exact .inl rfl
end
end Go.V
