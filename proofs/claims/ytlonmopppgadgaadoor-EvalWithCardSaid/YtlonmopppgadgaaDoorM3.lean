/- norm, as plain functions. -/
import Derived.Test.YtlonmopppgadgaaDoorP0
set_option linter.unusedVariables false
namespace Go.V
def Tm.at (t : Tm) (i : Nat) : Tm := t.a.getD i t
def mk (op : Int) (a : List Tm) : Tm := .mk op ⟨#[]⟩ 0 a
def leT (t u : Tm) : Tm := .mk 22 ⟨#[]⟩ 0 [t, u]
def emptyT (t : Tm) : Tm := leT (.mk 3 ⟨#[]⟩ 0 [t]) (.mk 1 ⟨#[]⟩ 0 [])
def plainT (t : Tm) : Tm :=
  if t.op = 21 then mk 20 [mk 18 [t.at 0], t.at 1]
  else if t.op = 23 then mk 18 [leT (t.at 1) (t.at 0)]
  else if t.op = 24 then mk 19 [leT (t.at 0) (t.at 1), leT (t.at 1) (t.at 0)]
  else if t.op = 26 then emptyT (mk 13 [t.at 0, t.at 1])
  else if t.op = 25 then emptyT (mk 13 [mk 10 [t.at 0], t.at 1])
  else if t.op = 28 then emptyT (mk 13 [mk 10 [t.at 0], mk 10 [t.at 1]])
  else if t.op = 27 then mk 19 [emptyT (mk 13 [t.at 0, t.at 1]), emptyT (mk 13 [t.at 1, t.at 0])]
  else t
theorem plainT_21 {t : Tm} (h : t.op = 21) : plainT t = mk 20 [mk 18 [t.at 0], t.at 1] := by
  unfold plainT
  rw [if_pos h]
theorem plainT_23 {t : Tm} (h : t.op = 23) : plainT t = mk 18 [leT (t.at 1) (t.at 0)] := by
  unfold plainT
  rw [if_neg (by omega), if_pos h]
theorem plainT_24 {t : Tm} (h : t.op = 24) : plainT t = mk 19 [leT (t.at 0) (t.at 1), leT (t.at 1) (t.at 0)] := by
  unfold plainT
  rw [if_neg (by omega), if_neg (by omega), if_pos h]
theorem plainT_26 {t : Tm} (h : t.op = 26) : plainT t = emptyT (mk 13 [t.at 0, t.at 1]) := by
  unfold plainT
  rw [if_neg (by omega), if_neg (by omega), if_neg (by omega), if_pos h]
theorem plainT_25 {t : Tm} (h : t.op = 25) : plainT t = emptyT (mk 13 [mk 10 [t.at 0], t.at 1]) := by
  unfold plainT
  rw [if_neg (by omega), if_neg (by omega), if_neg (by omega), if_neg (by omega), if_pos h]
theorem plainT_28 {t : Tm} (h : t.op = 28) : plainT t = emptyT (mk 13 [mk 10 [t.at 0], mk 10 [t.at 1]]) := by
  unfold plainT
  rw [if_neg (by omega), if_neg (by omega), if_neg (by omega), if_neg (by omega), if_neg (by omega), if_pos h]
theorem plainT_27 {t : Tm} (h : t.op = 27) : plainT t = mk 19 [emptyT (mk 13 [t.at 0, t.at 1]), emptyT (mk 13 [t.at 1, t.at 0])] := by
  unfold plainT
  rw [if_neg (by omega), if_neg (by omega), if_neg (by omega), if_neg (by omega), if_neg (by omega), if_neg (by omega), if_pos h]
theorem plainT_no {t : Tm} (h : t.op ≠ 21 ∧ t.op ≠ 23 ∧ t.op ≠ 24 ∧ t.op ≠ 26 ∧ t.op ≠ 25 ∧ t.op ≠ 28 ∧ t.op ≠ 27) : plainT t = t := by
  unfold plainT
  rw [if_neg (by omega), if_neg (by omega), if_neg (by omega), if_neg (by omega), if_neg (by omega), if_neg (by omega), if_neg (by omega)]
def turnedF (o : Int) : Int := if o = 19 then 20 else if o = 20 then 19 else if o = 16 then 17 else if o = 17 then 16 else o
mutual
/-- each operation has as many as it must -/
def arT : Tm → Bool
  | .mk op _ _ a => (decide (op ≠ 18) || decide (a.length = 1)) && (decide (op < 21) || decide (28 < op) || decide (a.length = 2)) && arL a
def arL : List Tm → Bool
  | [] => true
  | x :: r => arT x && arL r
end
theorem arT_eq (t : Tm) : arT t = ((decide (t.op ≠ 18) || decide (t.a.length = 1)) && (decide (t.op < 21) || decide (28 < t.op) || decide (t.a.length = 2)) && arL t.a) := by cases t; rw [arT]; rfl
theorem arL_mem : ∀ {a : List Tm}, arL a = true → ∀ x ∈ a, arT x = true
  | y :: r, h, x, hx => by
    rw [arL, Bool.and_eq_true] at h
    rcases List.mem_cons.1 hx with rfl | hx
    · exact h.1
    · exact arL_mem h.2 x hx
mutual
def normT : Tm → Bool → Tm
  | .mk op nm n a, no =>
    if op = 18 then (normL a (!no)).getD 0 (.mk op nm n a)
    else if op = 19 ∨ op = 20 then mk (if no then turnedF op else op) (normL a no)
    else if op = 16 ∨ op = 17 then mk (if no then turnedF op else op) (normL a no)
    else if op = 21 then mk (if no then 19 else 20) ((normL a (!no)).take 1 ++ (normL a no).drop 1)
    else if op = 23 then (if no then leT ((Tm.mk op nm n a).at 1) ((Tm.mk op nm n a).at 0) else mk 18 [leT ((Tm.mk op nm n a).at 1) ((Tm.mk op nm n a).at 0)])
    else if op = 24 then (if no then mk 20 [mk 18 [leT ((Tm.mk op nm n a).at 0) ((Tm.mk op nm n a).at 1)], mk 18 [leT ((Tm.mk op nm n a).at 1) ((Tm.mk op nm n a).at 0)]] else plainT (.mk op nm n a))
    else if op = 27 then (if no then mk 20 ((plainT (.mk op nm n a)).a.map fun x => mk 18 [x]) else plainT (.mk op nm n a))
    else if no then mk 18 [plainT (.mk op nm n a)] else plainT (.mk op nm n a)
def normL : List Tm → Bool → List Tm
  | [], _ => []
  | x :: r, no => normT x no :: normL r no
end
theorem normL_eq (a : List Tm) (no : Bool) : normL a no = a.map (normT · no) := by
  induction a with
  | nil => rfl
  | cons x r ih => rw [normL, ih]; rfl
/-- one step, of the plain form -/
def normS (p : Tm) (no : Bool) : Tm :=
  if p.op = 18 then normT (p.at 0) (!no)
  else if p.op = 19 ∨ p.op = 20 ∨ p.op = 16 ∨ p.op = 17 then mk (if no then turnedF p.op else p.op) (p.a.map (normT · no))
  else if no then mk 18 [p] else p
theorem normT_le (a b : Tm) (no : Bool) : normT (leT a b) no = if no then mk 18 [leT a b] else leT a b := by
  unfold leT
  rw [normT]
  have e : plainT (.mk 22 ⟨#[]⟩ 0 [a, b]) = .mk 22 ⟨#[]⟩ 0 [a, b] := plainT_no (by simp [Tm.op])
  rw [e]
  simp
theorem normT_not (a : Tm) (no : Bool) : normT (mk 18 [a]) no = normT a (!no) := by
  unfold mk
  rw [normT, if_pos rfl, normL, normL]; rfl
theorem len1 {a : List Tm} (h : a.length = 1) : ∃ x, a = [x] := by
  match a, h with
  | [x], _ => exact ⟨x, rfl⟩
theorem len2 {a : List Tm} (h : a.length = 2) : ∃ x y, a = [x, y] := by
  match a, h with
  | [x, y], _ => exact ⟨x, y, rfl⟩
theorem normT_step {t : Tm} (h : arT t = true) (no : Bool) : normT t no = normS (plainT t) no := by
  cases t with | mk op nm n a =>
  rw [arT] at h
  simp only [Bool.and_eq_true, Bool.or_eq_true, decide_eq_true_eq] at h
  obtain ⟨⟨h1, h2⟩, h3⟩ := h
  by_cases e21 : op = 21
  · subst e21
    obtain ⟨x, y, rfl⟩ := len2 (a := a) (by omega)
    rw [plainT_21 rfl, normT]
    simp only [Int.reduceEq, if_false, or_self, if_true, normL]
    unfold normS
    simp only [mk, Tm.op, Int.reduceEq, if_false, or_self, or_true, true_or, if_true, Tm.at, Tm.a, List.map]
    rw [show Tm.mk 18 ⟨#[]⟩ 0 [([x, y] : List Tm).getD 0 (.mk 21 nm n [x, y])] = mk 18 [x] from rfl, normT_not]
    cases no <;> simp [turnedF, normL]
  by_cases e23 : op = 23
  · subst e23
    rw [plainT_23 rfl, normT]
    simp only [Int.reduceEq, if_false, or_self, if_true]
    unfold normS
    simp only [show (mk 18 [leT ((Tm.mk 23 nm n a).at 1) ((Tm.mk 23 nm n a).at 0)]).op = 18 from rfl, if_true]
    rw [show (mk 18 [leT ((Tm.mk 23 nm n a).at 1) ((Tm.mk 23 nm n a).at 0)]).at 0 = leT ((Tm.mk 23 nm n a).at 1) ((Tm.mk 23 nm n a).at 0) from rfl, normT_le]
    cases no <;> rfl
  by_cases e24 : op = 24
  · subst e24
    rw [plainT_24 rfl, normT]
    simp only [Int.reduceEq, if_false, or_self, if_true, plainT_24 (t := Tm.mk 24 nm n a) rfl]
    unfold normS
    simp only [mk, Tm.op, Int.reduceEq, if_false, or_self, or_true, true_or, if_true, Tm.a, List.map, normT_le]
    cases no <;> simp [turnedF, mk]
  by_cases e27 : op = 27
  · subst e27
    rw [plainT_27 rfl, normT]
    simp only [Int.reduceEq, if_false, or_self, if_true, plainT_27 (t := Tm.mk 27 nm n a) rfl]
    unfold normS
    simp only [mk, Tm.op, Int.reduceEq, if_false, or_self, or_true, true_or, if_true, Tm.a, List.map, emptyT, normT_le]
    cases no <;> simp [turnedF, mk]
  by_cases e18 : op = 18
  · subst e18
    obtain ⟨x, rfl⟩ := len1 (a := a) (by omega)
    rw [plainT_no (by simp [Tm.op]), normT, if_pos rfl]
    unfold normS
    rw [if_pos (show (Tm.mk 18 nm n [x]).op = 18 from rfl), normL, normL]; rfl
  by_cases e2 : op = 26 ∨ op = 25 ∨ op = 28
  · have hp : (plainT (.mk op nm n a)).op = 22 := by
      rcases e2 with rfl | rfl | rfl
      · rw [plainT_26 rfl]; rfl
      · rw [plainT_25 rfl]; rfl
      · rw [plainT_28 rfl]; rfl
    unfold normS
    rw [normT, hp, if_neg e18, if_neg (show ¬ (op = 19 ∨ op = 20) by omega), if_neg (show ¬ (op = 16 ∨ op = 17) by omega), if_neg e21, if_neg e23, if_neg e24, if_neg e27, if_neg (show ¬ (22 : Int) = 18 by decide), if_neg (show ¬ ((22 : Int) = 19 ∨ (22 : Int) = 20 ∨ (22 : Int) = 16 ∨ (22 : Int) = 17) by decide)]
  have hp : plainT (.mk op nm n a) = .mk op nm n a := plainT_no (by show op ≠ 21 ∧ op ≠ 23 ∧ op ≠ 24 ∧ op ≠ 26 ∧ op ≠ 25 ∧ op ≠ 28 ∧ op ≠ 27; omega)
  unfold normS
  rw [normT, hp, if_neg e18, show (Tm.mk op nm n a).op = op from rfl, if_neg e18]
  by_cases e19 : op = 19 ∨ op = 20
  · rw [if_pos e19, if_pos (show op = 19 ∨ op = 20 ∨ op = 16 ∨ op = 17 by omega), normL_eq]; rfl
  by_cases e16 : op = 16 ∨ op = 17
  · rw [if_neg e19, if_pos e16, if_pos (show op = 19 ∨ op = 20 ∨ op = 16 ∨ op = 17 by omega), normL_eq]; rfl
  rw [if_neg e19, if_neg e16, if_neg e21, if_neg e23, if_neg e24, if_neg e27, if_neg (show ¬ (op = 19 ∨ op = 20 ∨ op = 16 ∨ op = 17) by omega)]
end Go.V
