/- Sizes and depths of terms, as plain numbers. -/
import Derived.Test.YtlonmopppgadgaaDoorM1
set_option linter.unusedVariables false
namespace Go.V
mutual
def Tm.size : Tm → Nat
  | .mk _ _ _ a => Tm.sizeL a + 1
def Tm.sizeL : List Tm → Nat
  | [] => 0
  | x :: r => Tm.size x + Tm.sizeL r
end
mutual
def Tm.dep : Tm → Nat
  | .mk _ _ _ a => Tm.depL a + 1
def Tm.depL : List Tm → Nat
  | [] => 0
  | x :: r => max (Tm.dep x) (Tm.depL r)
end
theorem Tm.size_eq (t : Tm) : t.size = Tm.sizeL t.a + 1 := by cases t; rw [Tm.size]; rfl
theorem Tm.dep_eq (t : Tm) : t.dep = Tm.depL t.a + 1 := by cases t; rw [Tm.dep]; rfl
theorem Tm.size_mk (o : Int) (s : ByteArray) (n : Int) (a : List Tm) : (Tm.mk o s n a).size = Tm.sizeL a + 1 := by rw [Tm.size]
theorem Tm.dep_mk (o : Int) (s : ByteArray) (n : Int) (a : List Tm) : (Tm.mk o s n a).dep = Tm.depL a + 1 := by rw [Tm.dep]
theorem Tm.size_pos (t : Tm) : 1 ≤ t.size := by rw [Tm.size_eq]; omega
theorem Tm.dep_pos (t : Tm) : 1 ≤ t.dep := by rw [Tm.dep_eq]; omega
theorem Tm.sizeL_nil : Tm.sizeL [] = 0 := by rw [Tm.sizeL]
theorem Tm.sizeL_cons (x : Tm) (r : List Tm) : Tm.sizeL (x :: r) = x.size + Tm.sizeL r := by rw [Tm.sizeL]
theorem Tm.depL_nil : Tm.depL [] = 0 := by rw [Tm.depL]
theorem Tm.depL_cons (x : Tm) (r : List Tm) : Tm.depL (x :: r) = max x.dep (Tm.depL r) := by rw [Tm.depL]
theorem Tm.size_mem : ∀ {a : List Tm} {x : Tm}, x ∈ a → x.size ≤ Tm.sizeL a
  | y :: r, x, h => by
    rw [Tm.sizeL_cons]
    rcases List.mem_cons.1 h with rfl | h
    · omega
    · have := Tm.size_mem h; omega
theorem Tm.dep_mem : ∀ {a : List Tm} {x : Tm}, x ∈ a → x.dep ≤ Tm.depL a
  | y :: r, x, h => by
    rw [Tm.depL_cons]
    rcases List.mem_cons.1 h with rfl | h
    · omega
    · have := Tm.dep_mem h; omega
theorem Tm.len_size : ∀ a : List Tm, a.length ≤ Tm.sizeL a
  | [] => Nat.zero_le _
  | x :: r => by rw [Tm.sizeL_cons, List.length_cons]; have := Tm.len_size r; have := x.size_pos; omega

theorem deepL_min (a : List Tm) (h : ∀ x ∈ a, ∀ m : Int, 1 ≤ m → deepT x m = min (x.dep : Int) m) : ∀ m n : Int, 1 ≤ m → 0 ≤ n → n ≤ m → deepL a m n = min (max n (Tm.depL a)) m := by
  induction a with
  | nil => intro m n h1 h0 h2; rw [deepL, Tm.depL_nil]; omega
  | cons x r ih =>
    intro m n h1 h0 h2
    rw [deepL, Tm.depL_cons]
    split
    · omega
    · rw [h x (by simp) m h1, ih (fun y hy => h y (by simp [hy])) m _ h1 (by omega) (by omega)]
      have := x.dep_pos
      omega
theorem deepT_min (t : Tm) : ∀ m : Int, 1 ≤ m → deepT t m = min (t.dep : Int) m := by
  induction t using Tm.ind' with
  | h t ih =>
    intro m hm
    rw [deepT_eq, Tm.dep_eq]
    by_cases e : m = 1
    · subst e; rw [show (1 : Int) - 1 = 0 from rfl, deepL_top]; omega
    · rw [deepL_min t.a ih (m - 1) 0 (by omega) (by omega) (by omega)]; omega
theorem sizL_min (a : List Tm) (h : ∀ x ∈ a, ∀ n : Int, 0 ≤ n → n ≤ 2000 → sizT x n = min (n + x.size) 2001) : ∀ n : Int, 0 ≤ n → n ≤ 2001 → sizL a n = min (n + Tm.sizeL a) 2001 := by
  induction a with
  | nil => intro n h0 h1; rw [sizL, Tm.sizeL_nil]; omega
  | cons x r ih =>
    intro n h0 h1
    rw [sizL, Tm.sizeL_cons]
    split
    · rw [h x (by simp) n h0 (by omega), ih (fun y hy => h y (by simp [hy])) _ (by omega) (by omega)]; omega
    · rw [ih (fun y hy => h y (by simp [hy])) _ (by omega) (by omega)]; omega
theorem sizT_min (t : Tm) : ∀ n : Int, 0 ≤ n → n ≤ 2000 → sizT t n = min (n + t.size) 2001 := by
  induction t using Tm.ind' with
  | h t ih =>
    intro n h0 h1
    rw [sizT_eq, Tm.size_eq]
    split
    · omega
    · rw [sizL_min t.a ih (n + 1) (by omega) (by omega)]; omega
/-- what measure.of says, of all that it is asked of -/
def OfSays (sz dp : Nat) (d s m : Int) (p : Int × Int) : Prop :=
  (s + sz ≤ 2000 ∧ d + dp ≤ 100 → p = (s + sz, max m (d + dp))) ∧ (¬ (s + sz ≤ 2000 ∧ d + dp ≤ 100) → p.1 > 2000 ∨ p.2 > 100) ∧ m ≤ p.2 ∧ s ≤ p.1
theorem ofL_says (a : List Tm) (h : ∀ x ∈ a, ∀ d s m : Int, 1 ≤ d → 0 ≤ s → s ≤ 2000 → OfSays x.size x.dep (d - 1) s m (ofT x d s m)) :
    ∀ d s m : Int, 1 ≤ d → 0 ≤ s → s ≤ 2001 → d ≤ m → OfSays (Tm.sizeL a) (Tm.depL a) d s m (ofL a d s m) := by
  induction a with
  | nil =>
    intro d s m h1 h2 h3 h4
    rw [ofL, Tm.sizeL_nil, Tm.depL_nil]
    refine ⟨fun _ => ?_, fun _ => ?_, Int.le_refl _, Int.le_refl _⟩
    · rw [Prod.mk.injEq]; omega
    · simp only; omega
  | cons x r ih =>
    intro d s m h1 h2 h3 h4
    rw [ofL, Tm.sizeL_cons, Tm.depL_cons]
    have hx := x.size_pos
    split
    · next hc =>
      refine ⟨fun _ => by omega, fun _ => ?_, Int.le_refl _, Int.le_refl _⟩
      simp only; omega
    · obtain ⟨p1, p2, p3, p4⟩ := h x (by simp) (d + 1) s m (by omega) h2 (by omega)
      have hb := ofT_bound x (d + 1) s m h2 (by omega)
      obtain ⟨q1, q2, q3, q4⟩ := ih (fun y hy => h y (by simp [hy])) d (ofT x (d + 1) s m).1 (ofT x (d + 1) s m).2 h1 hb.1 hb.2 (by omega)
      refine ⟨fun hc => ?_, fun hc => ?_, by omega, by omega⟩
      · have e := p1 (by omega)
        have e1 := congrArg Prod.fst e
        have e2 := congrArg Prod.snd e
        simp only at e1 e2
        rw [q1 (by omega), Prod.mk.injEq]
        omega
      · by_cases hd : s + x.size ≤ 2000 ∧ d + 1 - 1 + x.dep ≤ 100
        · have e := p1 hd
          have e1 := congrArg Prod.fst e
          have e2 := congrArg Prod.snd e
          simp only at e1 e2
          exact q2 (by omega)
        · have := p2 hd
          omega
theorem ofT_says (t : Tm) : ∀ d s m : Int, 1 ≤ d → 0 ≤ s → s ≤ 2000 → OfSays t.size t.dep (d - 1) s m (ofT t d s m) := by
  induction t using Tm.ind' with
  | h t ih =>
    intro d s m h1 h2 h3
    rw [ofT_eq, Tm.size_eq, Tm.dep_eq]
    obtain ⟨p1, p2, p3, p4⟩ := ofL_says t.a ih d (s + 1) (max m d) h1 (by omega) (by omega) (by omega)
    refine ⟨fun hc => ?_, fun hc => p2 (by omega), by omega, by omega⟩
    rw [p1 (by omega), Prod.mk.injEq]
    omega
/-- Sort, by size and depth -/
theorem sortF_eq (t : Tm) : sortF t = if t.size > 2000 ∨ t.dep > 100 then (0, 7) else if rightT t 0 then ((shpAt t.op).sort, 0) else (0, 3) := by
  obtain ⟨p1, p2, _⟩ := ofT_says t 1 0 0 (by omega) (by omega) (by omega)
  unfold sortF
  have : ((ofT t 1 0 0).1 > 2000 ∨ (ofT t 1 0 0).2 > 100) ↔ (t.size > 2000 ∨ t.dep > 100) := by
    constructor
    · intro h
      by_cases hc : (0 : Int) + t.size ≤ 2000 ∧ (1 : Int) - 1 + t.dep ≤ 100
      · have e := p1 hc
        have e1 := congrArg Prod.fst e
        have e2 := congrArg Prod.snd e
        simp only at e1 e2
        omega
      · omega
    · intro h; exact p2 (by omega)
  simp only [this]
theorem sameF_eq (t u : Tm) : sameF t u = (decide (t.dep ≤ 100) && decide (u.dep ≤ 100) && sameT t u) := by
  unfold sameF
  rw [deepT_min t 101 (by omega), deepT_min u 101 (by omega)]
  have h : ∀ v : Tm, decide (min (v.dep : Int) 101 ≤ 100) = decide (v.dep ≤ 100) := fun v => by
    by_cases hv : v.dep ≤ 100
    · rw [decide_eq_true hv, decide_eq_true (by omega)]
    · rw [decide_eq_false hv, decide_eq_false (by omega)]
  rw [h, h]
theorem sameF_refl {t : Tm} (h : t.dep ≤ 100) : sameF t t = true := by
  rw [sameF_eq, (sameT_iff t t).2 rfl]; simp [h]
end Go.V
