/- The document's Deep and Same, as plain functions. -/
import Derived.Test.YtlonmopppgadgaaDoorM0
set_option linter.unusedVariables false
namespace Go.V
mutual
def rdeepT : Tm → Int → Int
  | .mk _ _ _ a, m => if m = 1 then 1 else rdeepL a (m - 1) 0 + 1
def rdeepL : List Tm → Int → Int → Int
  | [], _, n => n
  | x :: r, m, n => rdeepL r m (max n (rdeepT x m))
end
theorem rdeepT_eq (t : Tm) (m : Int) : rdeepT t m = if m = 1 then 1 else rdeepL t.a (m - 1) 0 + 1 := by cases t; rfl
theorem rdeepL_bound (a : List Tm) (h : ∀ x ∈ a, ∀ m, 1 ≤ m → 1 ≤ rdeepT x m ∧ rdeepT x m ≤ m) : ∀ m n, 1 ≤ m → 0 ≤ n → n ≤ m → n ≤ rdeepL a m n ∧ rdeepL a m n ≤ m := by
  induction a with
  | nil => intro m n h h0 h1; rw [rdeepL]; omega
  | cons x r ih =>
    intro m n hm h0 h1
    rw [rdeepL]
    have := h x (by simp) m (by omega)
    have := ih (fun y hy => h y (by simp [hy])) m (max n (rdeepT x m)) hm (by omega) (by omega)
    omega
theorem rdeepT_bound (t : Tm) : ∀ m, 1 ≤ m → 1 ≤ rdeepT t m ∧ rdeepT t m ≤ m := by
  induction t using Tm.ind' with
  | h t ih =>
    intro m hm
    rw [rdeepT_eq]
    split
    · omega
    · have := rdeepL_bound t.a ih (m - 1) 0 (by omega) (by omega) (by omega)
      omega
/-- the two ways to reckon a depth agree -/
theorem deepL_top (a : List Tm) : ∀ m, deepL a m m = m := by
  induction a with
  | nil => intro m; rw [deepL]
  | cons x r ih => intro m; rw [deepL, if_pos rfl]
theorem rdeepL_top (a : List Tm) : ∀ m n, 1 ≤ m → n = m → rdeepL a m n = m := by
  induction a with
  | nil => intro m n _ h; rw [rdeepL, h]
  | cons x r ih =>
    intro m n hm h
    have := rdeepT_bound x m hm
    rw [rdeepL]
    exact ih m _ hm (by omega)
theorem deep_eqL (a : List Tm) (h : ∀ x ∈ a, ∀ m, 1 ≤ m → deepT x m = rdeepT x m) : ∀ m n, 1 ≤ m → deepL a m n = rdeepL a m n := by
  induction a with
  | nil => intro m n _; rw [deepL, rdeepL]
  | cons x r ih =>
    intro m n hm
    rw [deepL, rdeepL]
    split
    · next e =>
      have := rdeepT_bound x m hm
      rw [rdeepL_top r m _ hm (by omega), e]
    · rw [h x (by simp) m hm]
      exact ih (fun y hy => h y (by simp [hy])) m _ hm
theorem deep_eq (t : Tm) : ∀ m, 1 ≤ m → deepT t m = rdeepT t m := by
  induction t using Tm.ind' with
  | h t ih =>
    intro m hm
    rw [deepT_eq, rdeepT_eq]
    split
    · next e => subst e; rw [show (1 : Int) - 1 = 0 from rfl, deepL_top]; rfl
    · rw [deep_eqL t.a ih (m - 1) 0 (by omega)]
mutual
def sameT : Tm → Tm → Bool
  | .mk o s n a, .mk o' s' n' a' => decide (o = o') && decide (s = s') && decide (n = n') && sameL a a'
def sameL : List Tm → List Tm → Bool
  | [], [] => true
  | x :: r, y :: q => sameT x y && sameL r q
  | _, _ => false
end
theorem sameT_eq (t u : Tm) : sameT t u = (decide (t.op = u.op) && decide (t.nm = u.nm) && decide (t.n = u.n) && sameL t.a u.a) := by cases t; cases u; rfl
theorem sameL_len : ∀ {a b : List Tm}, a.length ≠ b.length → sameL a b = false
  | [], [], h => absurd rfl h
  | [], _ :: _, _ => rfl
  | _ :: _, [], _ => rfl
  | x :: r, y :: q, h => by
    rw [sameL, sameL_len (a := r) (b := q) (by simpa using h), Bool.and_false]
theorem sameL_iff {a : List Tm} (h : ∀ x ∈ a, ∀ u, sameT x u = true ↔ x = u) : ∀ b, sameL a b = true ↔ a = b := by
  induction a with
  | nil => intro b; cases b <;> simp [sameL]
  | cons x r ih =>
    intro b
    cases b with
    | nil => simp [sameL]
    | cons y q =>
      rw [sameL, Bool.and_eq_true, h x (by simp), ih fun z hz => h z (by simp [hz])]
      simp
theorem sameT_iff (t : Tm) : ∀ u, sameT t u = true ↔ t = u := by
  induction t using Tm.ind with
  | h op nm n a ih =>
    intro u
    cases u with | mk op' nm' n' a' =>
    rw [sameT]
    simp only [Bool.and_eq_true, decide_eq_true_eq, sameL_iff ih, Tm.mk.injEq, and_assoc]
/-- Same -/
def sameF (t u : Tm) : Bool := decide (deepT t 101 ≤ 100) && decide (deepT u 101 ≤ 100) && sameT t u
end Go.V
