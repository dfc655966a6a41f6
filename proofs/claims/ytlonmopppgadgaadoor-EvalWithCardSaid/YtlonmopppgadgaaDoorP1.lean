/- What norm makes: few operations, of that it is itself, twice turned is not turned. -/
import Derived.Test.YtlonmopppgadgaaDoorM3
set_option linter.unusedVariables false
namespace Go.V
/-- what a right term is -/
structure RightSays (t : Tm) (m : Int) : Prop where
  op1 : 1 ≤ t.op
  op2 : t.op ≤ 28
  sort : m = 0 ∨ (shpAt t.op).sort = m
  nm1 : (shpAt t.op).name = true → nameF t.nm.data.toList = true
  nm2 : (shpAt t.op).name = false → t.nm = ⟨#[]⟩
  num : (shpAt t.op).number = false → t.n = 0
  len : (shpAt t.op).many = false → t.a.length = (shpAt t.op).a.length
  kids : ∀ (i : Nat) (h : i < t.a.length), rightT t.a[i] ((shpAt t.op).a.getD (bif (shpAt t.op).many then 0 else i) 0) = true
theorem rightL_iff (S : Shp) : ∀ (a : List Tm) (k : Nat), rightL S a k = true ↔ ∀ (i : Nat) (h : i < a.length), rightT a[i] (S.a.getD (bif S.many then 0 else k + i) 0) = true
  | [], k => by rw [rightL]; exact ⟨fun _ i h => absurd h (Nat.not_lt_zero _), fun _ => rfl⟩
  | x :: r, k => by
    rw [rightL, Bool.and_eq_true, rightL_iff S r (k + 1)]
    constructor
    · rintro ⟨h1, h2⟩ i h
      cases i with
      | zero => exact h1
      | succ i =>
        have := h2 i (by simpa using h)
        rw [show k + (i + 1) = k + 1 + i by omega]
        exact this
    · intro h
      refine ⟨h 0 (by simp), fun i hi => ?_⟩
      have := h (i + 1) (by simpa using hi)
      rw [show k + (i + 1) = k + 1 + i by omega] at this
      exact this
theorem right_iff (t : Tm) (m : Int) : rightT t m = true ↔ RightSays t m := by
  rw [rightT_eq]
  simp only [Bool.and_eq_true, decide_eq_true_eq, Bool.not_eq_true', rightL_iff, Nat.zero_add]
  constructor
  · rintro ⟨⟨⟨h1, h2⟩, h3⟩, h4⟩
    unfold badHead at h3
    simp only [Bool.or_eq_false_iff, Bool.and_eq_false_iff, decide_eq_false_iff_not, Bool.not_eq_false', Decidable.not_not] at h3
    obtain ⟨⟨⟨⟨s1, s2⟩, s3⟩, s4⟩, s5⟩ := h3
    refine ⟨h1, h2, s1, fun h => ?_, fun h => ?_, fun h => ?_, fun h => ?_, h4⟩
    · rcases s2 with s2 | s2
      · rw [h] at s2; cases s2
      · exact s2
    · rcases s3 with s3 | s3
      · rw [h] at s3; cases s3
      · exact s3
    · rcases s4 with s4 | s4
      · rw [h] at s4; cases s4
      · exact s4
    · rcases s5 with s5 | s5
      · rw [h] at s5; cases s5
      · omega
  · rintro ⟨h1, h2, s1, s2, s3, s4, s5, h4⟩
    refine ⟨⟨⟨h1, h2⟩, ?_⟩, h4⟩
    unfold badHead
    simp only [Bool.or_eq_false_iff, Bool.and_eq_false_iff, decide_eq_false_iff_not, Bool.not_eq_false', Decidable.not_not]
    refine ⟨⟨⟨⟨s1, ?_⟩, ?_⟩, ?_⟩, ?_⟩
    · cases h : (shpAt t.op).name
      · exact .inl rfl
      · exact .inr (s2 h)
    · cases h : (shpAt t.op).name
      · exact .inr (s3 h)
      · exact .inl rfl
    · cases h : (shpAt t.op).number
      · exact .inr (s4 h)
      · exact .inl rfl
    · cases h : (shpAt t.op).many
      · exact .inr (by have := s5 h; omega)
      · exact .inl rfl
theorem right_any {t : Tm} {m : Int} (h : rightT t m = true) : rightT t 0 = true := by
  rw [right_iff] at h ⊢
  exact { h with sort := .inl rfl }
theorem right_sort {t : Tm} {m : Int} (h : rightT t m = true) (hm : m ≠ 0) : (shpAt t.op).sort = m := by
  rw [right_iff] at h
  exact h.sort.resolve_left hm
theorem right_of {t : Tm} {m : Int} (h : rightT t 0 = true) (hm : (shpAt t.op).sort = m) : rightT t m = true := by
  rw [right_iff] at h ⊢
  exact { h with sort := .inr hm }
/-- of two -/
theorem right2 {op : Int} {nm : ByteArray} {n : Int} {a : List Tm} {m s1 s2 : Int} (h : rightT (.mk op nm n a) m = true) (hs : (shpAt op).a = [s1, s2]) (hm : (shpAt op).many = false) :
    ∃ x y, a = [x, y] ∧ rightT x s1 = true ∧ rightT y s2 = true := by
  rw [right_iff] at h
  have hl := h.len hm
  have hk := h.kids
  simp only [Tm.op, Tm.a] at hl hk
  rw [hs] at hl hk
  rw [hm] at hk
  obtain ⟨x, y, rfl⟩ := len2 hl
  exact ⟨x, y, rfl, hk 0 (by simp), hk 1 (by simp)⟩
theorem right1 {op : Int} {nm : ByteArray} {n : Int} {a : List Tm} {m s1 : Int} (h : rightT (.mk op nm n a) m = true) (hs : (shpAt op).a = [s1]) (hm : (shpAt op).many = false) :
    ∃ x, a = [x] ∧ rightT x s1 = true := by
  rw [right_iff] at h
  have hl := h.len hm
  have hk := h.kids
  simp only [Tm.op, Tm.a] at hl hk
  rw [hs] at hl hk
  rw [hm] at hk
  obtain ⟨x, rfl⟩ := len1 hl
  exact ⟨x, rfl, hk 0 (by simp)⟩
theorem right0 {op : Int} {nm : ByteArray} {n : Int} {a : List Tm} {m : Int} (h : rightT (.mk op nm n a) m = true) (hs : (shpAt op).a = []) (hm : (shpAt op).many = false) : a = [] := by
  rw [right_iff] at h
  have hl := h.len hm
  simp only [Tm.op, Tm.a] at hl
  rw [hs] at hl
  exact List.eq_nil_of_length_eq_zero hl
theorem rightM {op : Int} {nm : ByteArray} {n : Int} {a : List Tm} {m s1 : Int} (h : rightT (.mk op nm n a) m = true) (hs : (shpAt op).a = [s1]) (hm : (shpAt op).many = true) : ∀ x ∈ a, rightT x s1 = true := by
  rw [right_iff] at h
  have hk := h.kids
  simp only [Tm.op, Tm.a] at hk
  rw [hs, hm] at hk
  intro x hx
  obtain ⟨i, hi, rfl⟩ := List.getElem_of_mem hx
  exact hk i hi
theorem right_bare {op : Int} {nm : ByteArray} {n : Int} {a : List Tm} {m : Int} (h : rightT (.mk op nm n a) m = true) (hn : (shpAt op).name = false) (hm : (shpAt op).number = false) : nm = ⟨#[]⟩ ∧ n = 0 := by
  rw [right_iff] at h
  exact ⟨h.nm2 hn, h.num hm⟩
/-- the operations that make a bool -/
theorem sort4 {op : Int} (h1 : 1 ≤ op) (h2 : op ≤ 28) : (shpAt op).sort = 4 ↔ 15 ≤ op := by
  have : ∀ i : Fin 29, 1 ≤ i.1 → ((shpAt (i.1 : Int)).sort = 4 ↔ (15 : Int) ≤ i.1) := by decide
  have h3 := this ⟨op.toNat, by omega⟩ (by simp only; omega)
  simp only [Int.toNat_of_nonneg (show 0 ≤ op by omega)] at h3
  exact h3
theorem right4 {t : Tm} (h : rightT t 4 = true) : 15 ≤ t.op ∧ t.op ≤ 28 := by
  have hs := right_sort h (by decide)
  rw [right_iff] at h
  exact ⟨(sort4 h.op1 h.op2).1 hs, h.op2⟩
/-- a right bool, by its operation -/
theorem bool_cases {P : Tm → Prop} {t : Tm} (h : rightT t 4 = true)
    (p15 : ∀ nm n a, P (.mk 15 nm n a)) (p16 : ∀ op, op = 16 ∨ op = 17 → P (mk op []))
    (p18 : ∀ x, rightT x 4 = true → P (mk 18 [x])) (p19 : ∀ op a, op = 19 ∨ op = 20 → (∀ x ∈ a, rightT x 4 = true) → P (mk op a))
    (p21 : ∀ x y, rightT x 4 = true → rightT y 4 = true → P (mk 21 [x, y])) (p22 : ∀ x y, P (leT x y)) (p23 : ∀ op x y, 23 ≤ op → op ≤ 28 → P (mk op [x, y])) : P t := by
  obtain ⟨h1, h2⟩ := right4 h
  cases t with | mk op nm n a =>
  simp only [Tm.op] at h1 h2
  have hop : op = 15 ∨ op = 16 ∨ op = 17 ∨ op = 18 ∨ op = 19 ∨ op = 20 ∨ op = 21 ∨ op = 22 ∨ (23 ≤ op ∧ op ≤ 28) := by omega
  rcases hop with rfl | rfl | rfl | rfl | rfl | rfl | rfl | rfl | ⟨h3, h4⟩
  · exact p15 nm n a
  · obtain rfl := right0 h rfl rfl
    obtain ⟨rfl, rfl⟩ := right_bare h rfl rfl
    exact p16 _ (.inl rfl)
  · obtain rfl := right0 h rfl rfl
    obtain ⟨rfl, rfl⟩ := right_bare h rfl rfl
    exact p16 _ (.inr rfl)
  · obtain ⟨x, rfl, hx⟩ := right1 h rfl rfl
    obtain ⟨rfl, rfl⟩ := right_bare h rfl rfl
    exact p18 x hx
  · have hx := rightM h rfl rfl
    obtain ⟨rfl, rfl⟩ := right_bare h rfl rfl
    exact p19 _ a (.inl rfl) hx
  · have hx := rightM h rfl rfl
    obtain ⟨rfl, rfl⟩ := right_bare h rfl rfl
    exact p19 _ a (.inr rfl) hx
  · obtain ⟨x, y, rfl, hx, hy⟩ := right2 h rfl rfl
    obtain ⟨rfl, rfl⟩ := right_bare h rfl rfl
    exact p21 x y hx hy
  · obtain ⟨x, y, rfl, _, _⟩ := right2 h rfl rfl
    obtain ⟨rfl, rfl⟩ := right_bare h rfl rfl
    exact p22 x y
  · have hop : op = 23 ∨ op = 24 ∨ op = 25 ∨ op = 26 ∨ op = 27 ∨ op = 28 := by omega
    rcases hop with rfl | rfl | rfl | rfl | rfl | rfl
    all_goals
      obtain ⟨x, y, rfl, _, _⟩ := right2 h rfl rfl
      obtain ⟨rfl, rfl⟩ := right_bare h rfl rfl
      exact p23 _ x y h3 h4
/-! ### few -/
def fewN (a : List Tm) : Bool := a.head?.any fun x => decide (x.op = 15) || decide (x.op = 22)
mutual
def fewT : Tm → Bool
  | .mk op _ _ a => if op = 19 ∨ op = 20 then fewL a else if op = 18 then fewN a else decide (op = 16) || decide (op = 17) || decide (op = 15) || decide (op = 22)
def fewL : List Tm → Bool
  | [] => true
  | x :: r => fewT x && fewL r
end
theorem fewL_all (a : List Tm) : fewL a = a.all fewT := by
  induction a with
  | nil => rw [fewL]; rfl
  | cons x r ih => rw [fewL, ih]; rfl
theorem fewT_many {op : Int} (h : op = 19 ∨ op = 20) (a : List Tm) : fewT (mk op a) = a.all fewT := by
  unfold mk; rw [fewT, if_pos h, fewL_all]
theorem fewT_le (x y : Tm) : fewT (leT x y) = true := by unfold leT; rw [fewT]; rfl
theorem fewT_not {x : Tm} (h : x.op = 15 ∨ x.op = 22) : fewT (mk 18 [x]) = true := by
  unfold mk; rw [fewT, if_neg (by decide), if_pos rfl]; simpa [fewN] using h
theorem few_op {t : Tm} (h : fewT t = true) : 15 ≤ t.op ∧ t.op ≤ 22 ∧ t.op ≠ 21 := by
  cases t with | mk op nm n a =>
  rw [fewT] at h
  show 15 ≤ op ∧ op ≤ 22 ∧ op ≠ 21
  split at h
  · omega
  · split at h
    · omega
    · simp only [Bool.or_eq_true, decide_eq_true_eq] at h; omega
/-! ### what norm makes, by operation -/
theorem normT_15 (nm : ByteArray) (n : Int) (a : List Tm) (no : Bool) : normT (.mk 15 nm n a) no = if no then mk 18 [.mk 15 nm n a] else .mk 15 nm n a := by
  rw [normT]
  have e : plainT (.mk 15 nm n a) = .mk 15 nm n a := plainT_no (by simp [Tm.op])
  rw [e]; simp
theorem normT_16 {op : Int} (h : op = 16 ∨ op = 17) (no : Bool) : normT (mk op []) no = mk (if no then turnedF op else op) [] := by
  unfold mk
  rw [normT, if_neg (by omega), if_neg (by omega), if_pos h, normL]; rfl
theorem normT_19 {op : Int} (h : op = 19 ∨ op = 20) (a : List Tm) (no : Bool) : normT (mk op a) no = mk (if no then turnedF op else op) (a.map (normT · no)) := by
  unfold mk
  rw [normT, if_neg (by omega), if_pos h, normL_eq]; rfl
theorem normT_21 (x y : Tm) (no : Bool) : normT (mk 21 [x, y]) no = mk (if no then 19 else 20) [normT x (!no), normT y no] := by
  unfold mk
  rw [normT]
  simp [normL, mk]
theorem normT_23 (x y : Tm) (no : Bool) : normT (mk 23 [x, y]) no = if no then leT y x else mk 18 [leT y x] := by
  unfold mk
  rw [normT]; cases no <;> rfl
theorem normT_24 (x y : Tm) (no : Bool) : normT (mk 24 [x, y]) no = if no then mk 20 [mk 18 [leT x y], mk 18 [leT y x]] else mk 19 [leT x y, leT y x] := by
  unfold mk
  rw [normT]; cases no <;> rfl
theorem normT_27 (x y : Tm) (no : Bool) : normT (mk 27 [x, y]) no = if no then mk 20 [mk 18 [emptyT (mk 13 [x, y])], mk 18 [emptyT (mk 13 [y, x])]] else mk 19 [emptyT (mk 13 [x, y]), emptyT (mk 13 [y, x])] := by
  unfold mk
  rw [normT]; cases no <;> rfl
theorem normT_26 (x y : Tm) (no : Bool) : normT (mk 26 [x, y]) no = if no then mk 18 [emptyT (mk 13 [x, y])] else emptyT (mk 13 [x, y]) := by
  unfold mk
  rw [normT]; cases no <;> rfl
theorem normT_25 (x y : Tm) (no : Bool) : normT (mk 25 [x, y]) no = if no then mk 18 [emptyT (mk 13 [mk 10 [x], y])] else emptyT (mk 13 [mk 10 [x], y]) := by
  unfold mk
  rw [normT]; cases no <;> rfl
theorem normT_28 (x y : Tm) (no : Bool) : normT (mk 28 [x, y]) no = if no then mk 18 [emptyT (mk 13 [mk 10 [x], mk 10 [y]])] else emptyT (mk 13 [mk 10 [x], mk 10 [y]]) := by
  unfold mk
  rw [normT]; cases no <;> rfl
/-- those that are made of numbers, sets and nodes: what becomes of them is made of these alone -/
inductive Flat (x y : Tm) : Tm → Tm → Prop
  | le (u : Tm) : u.op = 22 → u.dep ≤ max x.dep y.dep + 4 → (∀ no, normT u no = if no then mk 18 [u] else u) → Flat x y u (mk 18 [u])
  | not (u : Tm) : u.op = 22 → u.dep ≤ max x.dep y.dep + 4 → (∀ no, normT u no = if no then mk 18 [u] else u) → Flat x y (mk 18 [u]) u
  | two (u v : Tm) : u.op = 22 → v.op = 22 → u.dep ≤ max x.dep y.dep + 3 → v.dep ≤ max x.dep y.dep + 3 → (∀ no, normT u no = if no then mk 18 [u] else u) → (∀ no, normT v no = if no then mk 18 [v] else v) → Flat x y (mk 19 [u, v]) (mk 20 [mk 18 [u], mk 18 [v]])
theorem flat_le (a b x y : Tm) (h : (leT a b).dep ≤ max x.dep y.dep + 4) : Flat x y (leT a b) (mk 18 [leT a b]) := .le _ rfl h fun no => normT_le a b no
theorem dep_le (a b : Tm) : (leT a b).dep = max a.dep b.dep + 1 := by unfold leT; rw [Tm.dep_mk, Tm.depL_cons, Tm.depL_cons, Tm.depL_nil]; omega
theorem dep_mk1 (op : Int) (a : Tm) : (mk op [a]).dep = a.dep + 1 := by unfold mk; rw [Tm.dep_mk, Tm.depL_cons, Tm.depL_nil]; omega
theorem dep_mk2 (op : Int) (a b : Tm) : (mk op [a, b]).dep = max a.dep b.dep + 1 := by unfold mk; rw [Tm.dep_mk, Tm.depL_cons, Tm.depL_cons, Tm.depL_nil]; omega
theorem dep_empty (a : Tm) : (emptyT a).dep = a.dep + 2 := by
  unfold emptyT; rw [dep_le, Tm.dep_mk, Tm.dep_mk, Tm.depL_cons, Tm.depL_nil]; have := a.dep_pos; omega
theorem normT_empty (a : Tm) (no : Bool) : normT (emptyT a) no = if no then mk 18 [emptyT a] else emptyT a := normT_le _ _ _
theorem normT_flat {op : Int} (x y : Tm) (h1 : 23 ≤ op) (h2 : op ≤ 28) : Flat x y (normT (mk op [x, y]) false) (normT (mk op [x, y]) true) := by
  have hop : op = 23 ∨ op = 24 ∨ op = 25 ∨ op = 26 ∨ op = 27 ∨ op = 28 := by omega
  rcases hop with rfl | rfl | rfl | rfl | rfl | rfl
  · rw [normT_23, normT_23]
    exact .not _ rfl (by rw [dep_le]; omega) fun no => normT_le y x no
  · rw [normT_24, normT_24]
    exact .two _ _ rfl rfl (by rw [dep_le]; omega) (by rw [dep_le]; omega) (normT_le x y) (normT_le y x)
  · rw [normT_25, normT_25, if_neg (by decide), if_pos rfl]
    exact .le _ rfl (by rw [dep_empty, dep_mk2, dep_mk1]; omega) (normT_empty _)
  · rw [normT_26, normT_26, if_neg (by decide), if_pos rfl]
    exact .le _ rfl (by rw [dep_empty, dep_mk2]; omega) (normT_empty _)
  · rw [normT_27, normT_27]
    exact .two _ _ rfl rfl (by rw [dep_empty, dep_mk2]; omega) (by rw [dep_empty, dep_mk2]; omega) (normT_empty _) (normT_empty _)
  · rw [normT_28, normT_28, if_neg (by decide), if_pos rfl]
    exact .le _ rfl (by rw [dep_empty, dep_mk2, dep_mk1, dep_mk1]; omega) (normT_empty _)
theorem few_of22 {u : Tm} (h : u.op = 22) : fewT u = true := by
  cases u with | mk op nm n a =>
  simp only [Tm.op] at h
  subst h
  rw [fewT]; rfl
structure FlatSays (x y p q : Tm) : Prop where
  fp : fewT p = true
  fq : fewT q = true
  pt : normT p true = q
  qt : normT q true = p
  pf : normT p false = p
  qf : normT q false = q
  dp : p.dep ≤ max x.dep y.dep + 5
  dq : q.dep ≤ max x.dep y.dep + 5
theorem flat_says {x y p q : Tm} (h : Flat x y p q) : FlatSays x y p q := by
  cases h with
  | le u h1 h2 h3 =>
    exact ⟨few_of22 h1, fewT_not (.inr h1), h3 true, by rw [normT_not]; exact h3 false, h3 false, by rw [normT_not]; exact h3 true, by omega, by rw [dep_mk1]; omega⟩
  | not u h1 h2 h3 =>
    exact ⟨fewT_not (.inr h1), few_of22 h1, by rw [normT_not]; exact h3 false, h3 true, by rw [normT_not]; exact h3 true, h3 false, by rw [dep_mk1]; omega, by omega⟩
  | two u v h1 h2 h3 h4 h5 h6 =>
    have g1 := h5 true
    have g2 := h5 false
    have g3 := h6 true
    have g4 := h6 false
    simp only [if_true, Bool.false_eq_true, if_false] at g1 g2 g3 g4
    refine ⟨?_, ?_, ?_, ?_, ?_, ?_, ?_, ?_⟩
    · rw [fewT_many (.inl rfl)]; simp [few_of22 h1, few_of22 h2]
    · rw [fewT_many (.inr rfl)]; simp [fewT_not (.inr h1 : _ ∨ u.op = 22), fewT_not (.inr h2 : _ ∨ v.op = 22)]
    · rw [normT_19 (.inl rfl)]; simp [g1, g3, turnedF]
    · rw [normT_19 (.inr rfl)]; simp [normT_not, g2, g4, turnedF]
    · rw [normT_19 (.inl rfl)]; simp [g2, g4]
    · rw [normT_19 (.inr rfl)]; simp [normT_not, g1, g3]
    · rw [dep_mk2]; omega
    · rw [dep_mk2, dep_mk1, dep_mk1]; omega
/-- what is made has few operations -/
theorem norm_few (t : Tm) : rightT t 4 = true → ∀ no, fewT (normT t no) = true := by
  induction t using Tm.ind' with
  | h t ih =>
    intro h
    revert ih
    refine bool_cases (P := fun t => (∀ x ∈ t.a, rightT x 4 = true → ∀ no, fewT (normT x no) = true) → ∀ no, fewT (normT t no) = true) h ?_ ?_ ?_ ?_ ?_ ?_ ?_
    · intro nm n a _ no
      rw [normT_15]
      cases no
      · show fewT (Tm.mk 15 nm n a) = true; rw [fewT]; rfl
      · exact fewT_not (.inl rfl)
    · intro op ho _ no
      rw [normT_16 ho]
      unfold mk
      rw [fewT]
      rcases ho with rfl | rfl <;> cases no <;> rfl
    · intro x hx ih no
      rw [normT_not]
      exact ih x (by simp [mk, Tm.a]) hx _
    · intro op a ho hx ih no
      rw [normT_19 ho, fewT_many (by rcases ho with rfl | rfl <;> cases no <;> simp [turnedF]), List.all_eq_true]
      intro y hy
      obtain ⟨x, hx', rfl⟩ := List.mem_map.1 hy
      exact ih x hx' (hx x hx') _
    · intro x y hx hy ih no
      rw [normT_21, fewT_many (by cases no <;> simp)]
      simp only [List.all_cons, List.all_nil, Bool.and_true, Bool.and_eq_true]
      exact ⟨ih x (by simp [mk, Tm.a]) hx _, ih y (by simp [mk, Tm.a]) hy _⟩
    · intro x y _ no
      rw [normT_le]
      cases no
      · exact fewT_le x y
      · exact fewT_not (.inr rfl)
    · intro op x y h1 h2 _ no
      have hf := flat_says (normT_flat x y h1 h2)
      cases no
      · exact hf.fp
      · exact hf.fq
theorem depL_le {a : List Tm} {n : Nat} (h : ∀ x ∈ a, x.dep ≤ n) : Tm.depL a ≤ n := by
  induction a with
  | nil => rw [Tm.depL_nil]; omega
  | cons x r ih => rw [Tm.depL_cons]; have := h x (by simp); have := ih fun y hy => h y (by simp [hy]); omega
/-- and is not much deeper -/
theorem norm_dep (t : Tm) : rightT t 4 = true → ∀ no, (normT t no).dep ≤ t.dep + 4 := by
  induction t using Tm.ind' with
  | h t ih =>
    intro h
    revert ih
    refine bool_cases (P := fun t => (∀ x ∈ t.a, rightT x 4 = true → ∀ no, (normT x no).dep ≤ x.dep + 4) → ∀ no, (normT t no).dep ≤ t.dep + 4) h ?_ ?_ ?_ ?_ ?_ ?_ ?_
    · intro nm n a _ no
      rw [normT_15]
      cases no
      · show (Tm.mk 15 nm n a).dep ≤ _; omega
      · show (mk 18 _).dep ≤ _; rw [dep_mk1]; omega
    · intro op ho _ no
      rw [normT_16 ho]
      unfold mk
      rw [Tm.dep_mk, Tm.dep_mk]; omega
    · intro x hx ih no
      rw [normT_not, dep_mk1]
      have := ih x (by simp [mk, Tm.a]) hx (!no)
      omega
    · intro op a ho hx ih no
      rw [normT_19 ho]
      unfold mk
      rw [Tm.dep_mk, Tm.dep_mk]
      have : Tm.depL (a.map (normT · no)) ≤ Tm.depL a + 4 := depL_le fun y hy => by
        obtain ⟨x, hx', rfl⟩ := List.mem_map.1 hy
        have := ih x hx' (hx x hx') no
        have := Tm.dep_mem hx'
        omega
      omega
    · intro x y hx hy ih no
      rw [normT_21, dep_mk2, dep_mk2]
      have := ih x (by simp [mk, Tm.a]) hx (!no)
      have := ih y (by simp [mk, Tm.a]) hy no
      omega
    · intro x y _ no
      rw [normT_le]
      cases no
      · show (leT x y).dep ≤ _; omega
      · show (mk 18 _).dep ≤ _; rw [dep_mk1]; omega
    · intro op x y h1 h2 _ no
      have hf := flat_says (normT_flat x y h1 h2)
      rw [dep_mk2]
      cases no
      · have := hf.dp; omega
      · have := hf.dq; omega
theorem turned_turned {op : Int} (h : 16 ≤ op) (h' : op ≤ 20) : turnedF (turnedF op) = op := by
  have : op = 16 ∨ op = 17 ∨ op = 18 ∨ op = 19 ∨ op = 20 := by omega
  rcases this with rfl | rfl | rfl | rfl | rfl <;> rfl
/-- made again: as if at once -/
theorem norm_norm (t : Tm) : rightT t 4 = true → ∀ no b, normT (normT t no) b = normT t (no ^^ b) := by
  induction t using Tm.ind' with
  | h t ih =>
    intro h
    revert ih
    refine bool_cases (P := fun t => (∀ x ∈ t.a, rightT x 4 = true → ∀ no b, normT (normT x no) b = normT x (no ^^ b)) → ∀ no b, normT (normT t no) b = normT t (no ^^ b)) h ?_ ?_ ?_ ?_ ?_ ?_ ?_
    · intro nm n a _ no b
      rw [normT_15, normT_15]
      cases no <;> cases b <;> simp [normT_15, normT_not]
    · intro op ho _ no b
      rw [normT_16 ho, normT_16 ho, normT_16 (by rcases ho with rfl | rfl <;> cases no <;> simp [turnedF])]
      cases no <;> cases b <;> simp [turned_turned (op := op) (by omega) (by omega)]
    · intro x hx ih no b
      rw [normT_not, normT_not, ih x (by simp [mk, Tm.a]) hx]
      cases no <;> cases b <;> rfl
    · intro op a ho hx ih no b
      rw [normT_19 ho, normT_19 ho, normT_19 (by rcases ho with rfl | rfl <;> cases no <;> simp [turnedF]), List.map_map]
      congr 1
      · cases no <;> cases b <;> simp [turned_turned (op := op) (by omega) (by omega)]
      · exact List.map_congr_left fun x hx' => ih x hx' (hx x hx') no b
    · intro x y hx hy ih no b
      rw [normT_21, normT_21, normT_19 (by cases no <;> simp)]
      simp only [List.map, ih x (by simp [mk, Tm.a]) hx, ih y (by simp [mk, Tm.a]) hy]
      cases no <;> cases b <;> rfl
    · intro x y _ no b
      rw [normT_le, normT_le]
      cases no <;> cases b <;> simp [normT_le, normT_not]
    · intro op x y h1 h2 _ no b
      have hf := flat_says (normT_flat x y h1 h2)
      cases no <;> cases b
      · exact hf.pf
      · exact hf.pt
      · exact hf.qf
      · exact hf.qt
/-- what has few operations stays as it is -/
theorem few_norm (t : Tm) : rightT t 4 = true → fewT t = true → normT t false = t := by
  induction t using Tm.ind' with
  | h t ih =>
    intro h
    revert ih
    refine bool_cases (P := fun t => (∀ x ∈ t.a, rightT x 4 = true → fewT x = true → normT x false = x) → fewT t = true → normT t false = t) h ?_ ?_ ?_ ?_ ?_ ?_ ?_
    · intro nm n a _ _; rw [normT_15]; rfl
    · intro op ho _ _; rw [normT_16 ho]; rfl
    · intro x hx ih hf
      rw [normT_not]
      unfold mk at hf
      rw [fewT, if_neg (by decide), if_pos rfl] at hf
      simp only [fewN, List.head?_cons, Option.any_some, Bool.or_eq_true, decide_eq_true_eq] at hf
      clear ih
      revert hf
      refine bool_cases (P := fun x => x.op = 15 ∨ x.op = 22 → normT x (!false) = mk 18 [x]) hx ?_ ?_ ?_ ?_ ?_ ?_ ?_
      · intro nm n a _; rw [normT_15]; rfl
      · intro op ho hf; exfalso; simp only [mk, Tm.op] at hf; omega
      · intro x _ hf; exfalso; simp only [mk, Tm.op] at hf; omega
      · intro op a ho _ hf; exfalso; simp only [mk, Tm.op] at hf; omega
      · intro x y _ _ hf; exfalso; simp only [mk, Tm.op] at hf; omega
      · intro x y _; rw [normT_le]; rfl
      · intro op x y h1 h2 hf; exfalso; simp only [mk, Tm.op] at hf; omega
    · intro op a ho hx ih hf
      rw [fewT_many ho, List.all_eq_true] at hf
      rw [normT_19 ho]
      have : a.map (normT · false) = a := by
        conv => rhs; rw [← List.map_id a]
        exact List.map_congr_left fun x hx' => ih x hx' (hx x hx') (hf x hx')
      rw [this]; rfl
    · intro x y _ _ _ hf
      exact absurd rfl (few_op hf).2.2
    · intro x y _ _; rw [normT_le]; rfl
    · intro op x y h1 h2 _ hf
      have := few_op hf
      simp only [mk, Tm.op] at this; omega
end Go.V
