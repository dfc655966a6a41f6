/- What the names of a right term are. -/
import Derived.Test.YtaigilchnadmpaaGreatDoorN0
import Derived.Test.YtaigilchnadmpaaGreatDoorM4
import Derived.Test.YtaigilchnadmpaaGreatDoorT1
set_option linter.unusedVariables false
namespace Go.V
theorem op_cases {P : Int → Prop} {op : Int} (h1 : 1 ≤ op) (h2 : op ≤ 28) (h : ∀ i : Fin 29, 1 ≤ i.1 → P (i.1 : Int)) : P op := by
  have := h ⟨op.toNat, by omega⟩ (by simp only; omega)
  simpa only [Int.toNat_of_nonneg (show 0 ≤ op by omega)] using this
theorem shp_name {op : Int} (h1 : 1 ≤ op) (h2 : op ≤ 28) : (shpAt op).name = true → (shpAt op).number = false ∧ (shpAt op).a = [] ∧ (shpAt op).many = false := by
  refine op_cases (P := fun op => (shpAt op).name = true → (shpAt op).number = false ∧ (shpAt op).a = [] ∧ (shpAt op).many = false) h1 h2 ?_
  decide
theorem Nm.tm_size (x : Nm) : (Nm.tm x).size = 1 := by unfold Nm.tm; rw [Tm.size_mk, Tm.sizeL_nil]
theorem Nm.tm_dep (x : Nm) : (Nm.tm x).dep = 1 := rfl
/-- each name of a right term is a name, and right as a term -/
theorem coll_right (t : Tm) : ∀ {m : Int}, rightT t m = true → ∀ x ∈ collT t, nameF x.1 = true ∧ rightT (Nm.tm x) 0 = true := by
  induction t using Tm.ind' with
  | h t ih =>
    intro m h x hx
    have hr := (right_iff _ _).1 h
    rw [collT_eq, List.mem_append] at hx
    rcases hx with hx | hx
    · split at hx
      · cases hx
      next hne =>
      rw [List.mem_singleton] at hx
      subst hx
      have hn : (shpAt t.op).name = true := by
        cases e : (shpAt t.op).name
        · exact absurd (hr.nm2 e) hne
        · rfl
      obtain ⟨e1, e2, e3⟩ := shp_name hr.op1 hr.op2 hn
      refine ⟨hr.nm1 hn, (right_iff _ _).2 ⟨hr.op1, hr.op2, .inl rfl, fun _ => ?_, fun h => ?_, fun _ => rfl, fun _ => ?_, fun i hi => ?_⟩⟩
      · exact hr.nm1 hn
      · rw [show (Nm.tm (t.nm.data.toList, t.op)).op = t.op from rfl, hn] at h; cases h
      · show 0 = (shpAt t.op).a.length
        rw [e2]; rfl
      · exact absurd hi (Nat.not_lt_zero _)
    · obtain ⟨u, hu, hx⟩ := collL_mem.1 hx
      obtain ⟨i, hi, rfl⟩ := List.getElem_of_mem hu
      exact ih _ hu (hr.kids i hi) x hx
theorem compactN_len : ∀ l : List Nm, (compactN l).length ≤ l.length
  | [] => Nat.le_refl _
  | [_] => Nat.le_refl _
  | x :: y :: r => by
    rw [compactN]
    have := compactN_len (y :: r)
    split
    · rw [List.length_cons (as := y :: r)]; omega
    · rw [List.length_cons, List.length_cons (as := y :: r)]; omega
theorem sortN_len (l : List Nm) : (sortN l).length = l.length := by unfold sortN; rw [List.length_mergeSort]
theorem coll_len (t : Tm) : (collT t).length ≤ t.size := by
  induction t using Tm.ind' with
  | h t ih =>
    rw [collT_eq, Tm.size_eq, List.length_append]
    have h1 : (if t.nm = ⟨#[]⟩ then [] else [(t.nm.data.toList, t.op)] : List Nm).length ≤ 1 := by split <;> simp
    have h2 : ∀ a : List Tm, (∀ x ∈ a, (collT x).length ≤ x.size) → (collL a).length ≤ Tm.sizeL a := by
      intro a
      induction a with
      | nil => intro _; rw [collL]; simp
      | cons x r ihr =>
        intro h
        rw [collL, List.length_append, Tm.sizeL_cons]
        have := h x (by simp)
        have := ihr fun y hy => h y (by simp [hy])
        omega
    have := h2 t.a ih
    omega
theorem namesF_len (t : Tm) : (NamesF t).length ≤ 2000 := by
  unfold NamesF
  split
  · simp
  next h =>
  obtain ⟨h1, _⟩ := sortF_ok (t := t) (by omega)
  unfold namesT
  have := compactN_len (sortN (collT t))
  have := sortN_len (collT t)
  have := coll_len t
  omega
theorem namesF_rising (t : Tm) : Rising (NamesF t) := by
  unfold NamesF
  split
  · exact .nil
  · exact namesT_rising t
theorem namesF_right (t : Tm) {x : Nm} (hx : x ∈ NamesF t) : nameF x.1 = true ∧ (sortF (Nm.tm x)).2 = 0 := by
  unfold NamesF at hx
  split at hx
  · cases hx
  next h =>
  obtain ⟨_, _, h1, _⟩ := sortF_ok (t := t) (by omega)
  obtain ⟨h2, h3⟩ := coll_right t h1 x ((namesT_mem t x).1 hx)
  refine ⟨h2, ?_⟩
  rw [sortF_eq, if_neg (by rw [Nm.tm_size, Nm.tm_dep]; omega), if_pos h3]
theorem rising_step {l : List Nm} (h : Rising l) (i : Nat) (hi : i < l.length) (h0 : 0 < i) : ltN l[i - 1] l[i] = true :=
  List.pairwise_iff_getElem.1 h (i - 1) i (by omega) hi (by omega)
/-! ### of the names, whatever is made -/
theorem namesT_eq {t u : Tm} (h : ∀ x, x ∈ collT t ↔ x ∈ collT u) : namesT t = namesT u :=
  rising_ext (namesT_rising t) (namesT_rising u) fun x => by rw [namesT_mem, namesT_mem, h]
end Go.V
