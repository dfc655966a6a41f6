/- What the functions on terms reckon, as plain functions. -/
import Derived.Test.YtlonmopppgadgaaDoorT0
set_option linter.unusedVariables false
namespace Go.V
/-! ### measure.of -/
mutual
def ofT : Tm → Int → Int → Int → Int × Int
  | .mk _ _ _ a, d, s, m => ofL a d (s + 1) (max m d)
def ofL : List Tm → Int → Int → Int → Int × Int
  | [], _, s, m => (s, m)
  | x :: r, d, s, m => if s > 2000 ∨ d > 100 then (s, m) else ofL r d (ofT x (d + 1) s m).1 (ofT x (d + 1) s m).2
end
theorem ofT_eq (t : Tm) (d s m : Int) : ofT t d s m = ofL t.a d (s + 1) (max m d) := by cases t; rfl
theorem ofL_bound (a : List Tm) (h : ∀ x ∈ a, ∀ d s m, 0 ≤ s → s ≤ 2000 → 0 ≤ (ofT x d s m).1 ∧ (ofT x d s m).1 ≤ 2001) : ∀ d s m, 0 ≤ s → s ≤ 2001 → 0 ≤ (ofL a d s m).1 ∧ (ofL a d s m).1 ≤ 2001 := by
  induction a with
  | nil => intro d s m h0 h1; rw [ofL]; exact ⟨h0, h1⟩
  | cons x r ih =>
    intro d s m h0 h1
    rw [ofL]
    split
    · exact ⟨h0, h1⟩
    · have := h x (by simp) (d + 1) s m h0 (by omega)
      exact ih (fun y hy => h y (by simp [hy])) d _ _ this.1 this.2
theorem ofT_bound (t : Tm) : ∀ d s m, 0 ≤ s → s ≤ 2000 → 0 ≤ (ofT t d s m).1 ∧ (ofT t d s m).1 ≤ 2001 := by
  induction t using Tm.ind with
  | h op nm n a ih =>
    intro d s m h0 h1
    rw [ofT]
    exact ofL_bound a ih d _ _ (by omega) (by omega)

/-! ### deep -/
mutual
def deepT : Tm → Int → Int
  | .mk _ _ _ a, m => deepL a (m - 1) 0 + 1
def deepL : List Tm → Int → Int → Int
  | [], _, n => n
  | x :: r, m, n => if n = m then n else deepL r m (max n (deepT x m))
end
theorem deepT_eq (t : Tm) (m : Int) : deepT t m = deepL t.a (m - 1) 0 + 1 := by cases t; rfl
theorem deepL_bound (a : List Tm) (h : ∀ x ∈ a, ∀ m, 1 ≤ m → 1 ≤ deepT x m ∧ deepT x m ≤ m) : ∀ m n, 0 ≤ n → n ≤ m → n ≤ deepL a m n ∧ deepL a m n ≤ m := by
  induction a with
  | nil => intro m n h0 h1; rw [deepL]; omega
  | cons x r ih =>
    intro m n h0 h1
    rw [deepL]
    split
    · omega
    · have := h x (by simp) m (by omega)
      have := ih (fun y hy => h y (by simp [hy])) m (max n (deepT x m)) (by omega) (by omega)
      omega
theorem deepT_bound (t : Tm) : ∀ m, 1 ≤ m → 1 ≤ deepT t m ∧ deepT t m ≤ m := by
  induction t using Tm.ind' with
  | h t ih =>
    intro m hm
    rw [deepT_eq]
    have := deepL_bound t.a ih (m - 1) 0 (by omega) (by omega)
    omega

/-! ### Size -/
mutual
def sizT : Tm → Int → Int
  | .mk _ _ _ a, n => if n + 1 > 2000 then n + 1 else sizL a (n + 1)
def sizL : List Tm → Int → Int
  | [], n => n
  | x :: r, n => if n ≤ 2000 then sizL r (sizT x n) else sizL r n
end
theorem sizT_eq (t : Tm) (n : Int) : sizT t n = if n + 1 > 2000 then n + 1 else sizL t.a (n + 1) := by cases t; rfl
theorem sizL_bound (a : List Tm) (h : ∀ x ∈ a, ∀ n, 0 ≤ n → n ≤ 2000 → n < sizT x n ∧ sizT x n ≤ 2001) : ∀ n, 0 ≤ n → n ≤ 2001 → n ≤ sizL a n ∧ sizL a n ≤ 2001 := by
  induction a with
  | nil => intro n h0 h1; rw [sizL]; omega
  | cons x r ih =>
    intro n h0 h1
    rw [sizL]
    split
    · have := h x (by simp) n h0 (by omega)
      have := ih (fun y hy => h y (by simp [hy])) (sizT x n) (by omega) (by omega)
      omega
    · exact ih (fun y hy => h y (by simp [hy])) n h0 h1
theorem sizT_bound (t : Tm) : ∀ n, 0 ≤ n → n ≤ 2000 → n < sizT t n ∧ sizT t n ≤ 2001 := by
  induction t using Tm.ind' with
  | h t ih =>
    intro n h0 h1
    rw [sizT_eq]
    split
    · omega
    · have := sizL_bound t.a ih (n + 1) (by omega) (by omega)
      omega
end Go.V
