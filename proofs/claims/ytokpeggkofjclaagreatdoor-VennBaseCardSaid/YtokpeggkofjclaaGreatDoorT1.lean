/- Sizes and depths of terms, as plain numbers. -/
import Derived.Test.YtokpeggkofjclaaGreatDoorM1
set_option linter.unusedVariables false
namespace Go.V
mutual
def Tm.size : Tm → Nat
  | .mk _ _ _ a => Tm.sizeL a + 1
def Tm.sizeL : List Tm → Nat
  | [] => 0
  | x :: r => Tm.size x + Tm.sizeL r
end
mutual
def Tm.dep : Tm → Nat
  | .mk _ _ _ a => Tm.depL a + 1
def Tm.depL : List Tm → Nat
  | [] => 0
  | x :: r => max (Tm.dep x) (Tm.depL r)
end
theorem Tm.size_eq (t : Tm) : t.size = Tm.sizeL t.a + 1 := by cases t; rw [Tm.size]; rfl
theorem Tm.dep_eq (t : Tm) : t.dep = Tm.depL t.a + 1 := by cases t; rw [Tm.dep]; rfl
theorem Tm.size_mk (o : Int) (s : ByteArray) (n : Int) (a : List Tm) : (Tm.mk o s n a).size = Tm.sizeL a + 1 := by rw [Tm.size]
theorem Tm.dep_mk (o : Int) (s : ByteArray) (n : Int) (a : List Tm) : (Tm.mk o s n a).dep = Tm.depL a + 1 := by rw [Tm.dep]
theorem Tm.size_pos (t : Tm) : 1 ≤ t.size := by rw [Tm.size_eq]; omega
theorem Tm.dep_pos (t : Tm) : 1 ≤ t.dep := by rw [Tm.dep_eq]; omega
theorem Tm.sizeL_nil : Tm.sizeL [] = 0 := by rw [Tm.sizeL]
theorem Tm.sizeL_cons (x : Tm) (r : List Tm) : Tm.sizeL (x :: r) = x.size + Tm.sizeL r := by rw [Tm.sizeL]
theorem Tm.depL_nil : Tm.depL [] = 0 := by rw [Tm.depL]
theorem Tm.depL_cons (x : Tm) (r : List Tm) : Tm.depL (x :: r) = max x.dep (Tm.depL r) := by rw [Tm.depL]
theorem Tm.size_mem : ∀ {a : List Tm} {x : Tm}, x ∈ a → x.size ≤ Tm.sizeL a
  | y :: r, x, h => by
    rw [Tm.sizeL_cons]
    rcases List.mem_cons.1 h with rfl | h
    · omega
    · have := Tm.size_mem h; omega
theorem Tm.dep_mem : ∀ {a : List Tm} {x : Tm}, x ∈ a → x.dep ≤ Tm.depL a
  | y :: r, x, h => by
    rw [Tm.depL_cons]
    rcases List.mem_cons.1 h with rfl | h
    · omega
    · have := Tm.dep_mem h; omega
theorem Tm.len_size : ∀ a : List Tm, a.length ≤ Tm.sizeL a
  | [] => Nat.zero_le _
  | x :: r => by rw [Tm.sizeL_cons, List.length_cons]; have := Tm.len_size r; have := x.size_pos; omega

theorem deepL_min (a : List Tm) (h : ∀ x ∈ a, ∀ m : Int, 1 ≤ m → deepT x m = min (x.dep : Int) m) : ∀ m n : Int, 1 ≤ m → 0 ≤ n → n ≤ m → deepL a m n = min (max n (Tm.depL a)) m := by
  induction a with
  | nil => intro m n h1 h0 h2; rw [deepL, Tm.depL_nil]; omega
  | cons x r ih =>
    intro m n h1 h0 h2
    rw [deepL, Tm.depL_cons]
    split
    · omega
    · rw [h x (by simp) m h1, ih (fun y hy => h y (by simp [hy])) m _ h1 (by omega) (by omega)]
      have := x.dep_pos
      omega
theorem deepT_min (t : Tm) : ∀ m : Int, 1 ≤ m → deepT t m = min (t.dep : Int) m := by
  induction t using Tm.ind' with
  | h t ih =>
    intro m hm
    rw [deepT_eq, Tm.dep_eq]
    by_cases e : m = 1
    · subst e; rw [show (1 : Int) - 1 = 0 from rfl, deepL_top]; omega
    · rw [deepL_min t.a ih (m - 1) 0 (by omega) (by omega) (by omega)]; omega
theorem sizL_min (a : List Tm) (h : ∀ x ∈ a, ∀ n : Int, 0 ≤ n → n ≤ 2000 → sizT x n = min (n + x.size) 2001) : ∀ n : Int, 0 ≤ n → n ≤ 2001 → sizL a n = min (n + Tm.sizeL a) 2001 := by
  induction a with
  | nil => intro n h0 h1; rw [sizL, Tm.sizeL_nil]; omega
  | cons x r ih =>
    intro n h0 h1
    rw [sizL, Tm.sizeL_cons]
    split
    · rw [h x (by simp) n h0 (by omega), ih (fun y hy => h y (by simp [hy])) _ (by omega) (by omega)]; omega
    · rw [ih (fun y hy => h y (by simp [hy])) _ (by omega) (by omega)]; omega
theorem sizT_min (t : Tm) : ∀ n : Int, 0 ≤ n → n ≤ 2000 → sizT t n = min (n + t.size) 2001 := by
  induction t using Tm.ind' with
  | h t ih =>
    intro n h0 h1
    rw [sizT_eq, Tm.size_eq]
    split
    · omega
    · rw [sizL_min t.a ih (n + 1) (by omega) (by omega)]; omega
/-- what measure.of says, of all that it is asked of -/
def OfSays (sz dp : Nat) (d s m : Int) (p : Int × Int) : Prop :=
  (s + sz ≤ 2000 ∧ d + dp ≤ 100 → p = (s + sz, max m (d + dp))) ∧ (¬ (s + sz ≤ 2000 ∧ d + dp ≤ 100) → p.1 > 2000 ∨ p.2 > 100) ∧ m ≤ p.2 ∧ s ≤ p.1
theorem ofL_says (a : List Tm) (h : ∀ x ∈ a, ∀ d s m : Int, 1 ≤ d → 0 ≤ s → s ≤ 2000 → OfSays x.size x.dep (d - 1) s m (ofT x d s m)) :
    ∀ d s m : Int, 1 ≤ d → 0 ≤ s → s ≤ 2001 → d ≤ m → OfSays (Tm.sizeL a) (Tm.depL a) d s m (ofL a d s m) := by
  induction a with
  | nil =>
    intro d s m h1 h2 h3 h4
    rw [ofL, Tm.sizeL_nil, Tm.depL_nil]
    refine ⟨fun _ => ?_, fun _ => ?_, Int.le_refl _, Int.le_refl _⟩
    · rw [Prod.mk.injEq]; omega
    · simp only; omega
  | cons x r ih =>
    intro d s m h1 h2 h3 h4
    rw [ofL, Tm.sizeL_cons, Tm.depL_cons]
    have hx := x.size_pos
    split
    · next hc =>
      refine ⟨fun _ => by omega, fun _ => ?_, Int.le_refl _, Int.le_refl _⟩
      simp only; omega
    · obtain ⟨p1, p2, p3, p4⟩ := h x (by simp) (d + 1) s m (by omega) h2 (by omega)
      have hb := ofT_bound x (d + 1) s m h2 (by omega)
      obtain ⟨q1, q2, q3, q4⟩ := ih (fun y hy => h y (by simp [hy])) d (ofT x (d + 1) s m).1 (ofT x (d + 1) s m).2 h1 hb.1 hb.2 (by omega)
      refine ⟨fun hc => ?_, fun hc => ?_, by omega, by omega⟩
      · have e := p1 (by omega)
        have e1 := congrArg Prod.fst e
        have e2 := congrArg Prod.snd e
        simp only at e1 e2
        rw [q1 (by omega), Prod.mk.injEq]
        omega
      · by_cases hd : s + x.size ≤ 2000 ∧ d + 1 - 1 + x.dep ≤ 100
        · have e := p1 hd
          have e1 := congrArg Prod.fst e
          have e2 := congrArg Prod.snd e
          simp only at e1 e2
          exact q2 (by omega)
        · have := p2 hd
          omega
theorem ofT_says (t : Tm) : ∀ d s m : Int, 1 ≤ d → 0 ≤ s → s ≤ 2000 → OfSays t.size t.dep (d - 1) s m (ofT t d s m) := by
  induction t using Tm.ind' with
  | h t ih =>
    intro d s m h1 h2 h3
    rw [ofT_eq, Tm.size_eq, Tm.dep_eq]
    obtain ⟨p1, p2, p3, p4⟩ := ofL_says t.a ih d (s + 1) (max m d) h1 (by omega) (by omega) (by omega)
    refine ⟨fun hc => ?_, fun hc => p2 (by omega), by omega, by omega⟩
    rw [p1 (by omega), Prod.mk.injEq]
    omega
/-- Sort, by size and depth -/
theorem sortF_eq (t : Tm) : sortF t = if t.size > 2000 ∨ t.dep > 100 then (0, 7) else if rightT t 0 then ((shpAt t.op).sort, 0) else (0, 3) := by
  obtain ⟨p1, p2, _⟩ := ofT_says t 1 0 0 (by omega) (by omega) (by omega)
  unfold sortF
  have : ((ofT t 1 0 0).1 > 2000 ∨ (ofT t 1 0 0).2 > 100) ↔ (t.size > 2000 ∨ t.dep > 100) := by
    constructor
    · intro h
      by_cases hc : (0 : Int) + t.size ≤ 2000 ∧ (1 : Int) - 1 + t.dep ≤ 100
      · have e := p1 hc
        have e1 := congrArg Prod.fst e
        have e2 := congrArg Prod.snd e
        simp only at e1 e2
        omega
      · omega
    · intro h; exact p2 (by omega)
  simp only [this]
theorem sameF_eq (t u : Tm) : sameF t u = (decide (t.dep ≤ 100) && decide (u.dep ≤ 100) && sameT t u) := by
  unfold sameF
  rw [deepT_min t 101 (by omega), deepT_min u 101 (by omega)]
  have h : ∀ v : Tm, decide (min (v.dep : Int) 101 ≤ 100) = decide (v.dep ≤ 100) := fun v => by
    by_cases hv : v.dep ≤ 100
    · rw [decide_eq_true hv, decide_eq_true (by omega)]
    · rw [decide_eq_false hv, decide_eq_false (by omega)]
  rw [h, h]
theorem sameF_refl {t : Tm} (h : t.dep ≤ 100) : sameF t t = true := by
  rw [sameF_eq, (sameT_iff t t).2 rfl]; simp [h]
end Go.V
/- norm, as plain functions. -/
set_option linter.unusedVariables false
namespace Go.V
def Tm.at (t : Tm) (i : Nat) : Tm := t.a.getD i t
def mk (op : Int) (a : List Tm) : Tm := .mk op ⟨#[]⟩ 0 a
def leT (t u : Tm) : Tm := .mk 22 ⟨#[]⟩ 0 [t, u]
def emptyT (t : Tm) : Tm := leT (.mk 3 ⟨#[]⟩ 0 [t]) (.mk 1 ⟨#[]⟩ 0 [])
def plainT (t : Tm) : Tm :=
  if t.op = 21 then mk 20 [mk 18 [t.at 0], t.at 1]
  else if t.op = 23 then mk 18 [leT (t.at 1) (t.at 0)]
  else if t.op = 24 then mk 19 [leT (t.at 0) (t.at 1), leT (t.at 1) (t.at 0)]
  else if t.op = 26 then emptyT (mk 13 [t.at 0, t.at 1])
  else if t.op = 25 then emptyT (mk 13 [mk 10 [t.at 0], t.at 1])
  else if t.op = 28 then emptyT (mk 13 [mk 10 [t.at 0], mk 10 [t.at 1]])
  else if t.op = 27 then mk 19 [emptyT (mk 13 [t.at 0, t.at 1]), emptyT (mk 13 [t.at 1, t.at 0])]
  else t
theorem plainT_21 {t : Tm} (h : t.op = 21) : plainT t = mk 20 [mk 18 [t.at 0], t.at 1] := by
  unfold plainT
  rw [if_pos h]
theorem plainT_23 {t : Tm} (h : t.op = 23) : plainT t = mk 18 [leT (t.at 1) (t.at 0)] := by
  unfold plainT
  rw [if_neg (by omega), if_pos h]
theorem plainT_24 {t : Tm} (h : t.op = 24) : plainT t = mk 19 [leT (t.at 0) (t.at 1), leT (t.at 1) (t.at 0)] := by
  unfold plainT
  rw [if_neg (by omega), if_neg (by omega), if_pos h]
theorem plainT_26 {t : Tm} (h : t.op = 26) : plainT t = emptyT (mk 13 [t.at 0, t.at 1]) := by
  unfold plainT
  rw [if_neg (by omega), if_neg (by omega), if_neg (by omega), if_pos h]
theorem plainT_25 {t : Tm} (h : t.op = 25) : plainT t = emptyT (mk 13 [mk 10 [t.at 0], t.at 1]) := by
  unfold plainT
  rw [if_neg (by omega), if_neg (by omega), if_neg (by omega), if_neg (by omega), if_pos h]
theorem plainT_28 {t : Tm} (h : t.op = 28) : plainT t = emptyT (mk 13 [mk 10 [t.at 0], mk 10 [t.at 1]]) := by
  unfold plainT
  rw [if_neg (by omega), if_neg (by omega), if_neg (by omega), if_neg (by omega), if_neg (by omega), if_pos h]
theorem plainT_27 {t : Tm} (h : t.op = 27) : plainT t = mk 19 [emptyT (mk 13 [t.at 0, t.at 1]), emptyT (mk 13 [t.at 1, t.at 0])] := by
  unfold plainT
  rw [if_neg (by omega), if_neg (by omega), if_neg (by omega), if_neg (by omega), if_neg (by omega), if_neg (by omega), if_pos h]
theorem plainT_no {t : Tm} (h : t.op ≠ 21 ∧ t.op ≠ 23 ∧ t.op ≠ 24 ∧ t.op ≠ 26 ∧ t.op ≠ 25 ∧ t.op ≠ 28 ∧ t.op ≠ 27) : plainT t = t := by
  unfold plainT
  rw [if_neg (by omega), if_neg (by omega), if_neg (by omega), if_neg (by omega), if_neg (by omega), if_neg (by omega), if_neg (by omega)]
def turnedF (o : Int) : Int := if o = 19 then 20 else if o = 20 then 19 else if o = 16 then 17 else if o = 17 then 16 else o
mutual
/-- each operation has as many as it must -/
def arT : Tm → Bool
  | .mk op _ _ a => (decide (op ≠ 18) || decide (a.length = 1)) && (decide (op < 21) || decide (28 < op) || decide (a.length = 2)) && arL a
def arL : List Tm → Bool
  | [] => true
  | x :: r => arT x && arL r
end
theorem arT_eq (t : Tm) : arT t = ((decide (t.op ≠ 18) || decide (t.a.length = 1)) && (decide (t.op < 21) || decide (28 < t.op) || decide (t.a.length = 2)) && arL t.a) := by cases t; rw [arT]; rfl
theorem arL_mem : ∀ {a : List Tm}, arL a = true → ∀ x ∈ a, arT x = true
  | y :: r, h, x, hx => by
    rw [arL, Bool.and_eq_true] at h
    rcases List.mem_cons.1 hx with rfl | hx
    · exact h.1
    · exact arL_mem h.2 x hx
mutual
def normT : Tm → Bool → Tm
  | .mk op nm n a, no =>
    if op = 18 then (normL a (!no)).getD 0 (.mk op nm n a)
    else if op = 19 ∨ op = 20 then mk (if no then turnedF op else op) (normL a no)
    else if op = 16 ∨ op = 17 then mk (if no then turnedF op else op) (normL a no)
    else if op = 21 then mk (if no then 19 else 20) ((normL a (!no)).take 1 ++ (normL a no).drop 1)
    else if op = 23 then (if no then leT ((Tm.mk op nm n a).at 1) ((Tm.mk op nm n a).at 0) else mk 18 [leT ((Tm.mk op nm n a).at 1) ((Tm.mk op nm n a).at 0)])
    else if op = 24 then (if no then mk 20 [mk 18 [leT ((Tm.mk op nm n a).at 0) ((Tm.mk op nm n a).at 1)], mk 18 [leT ((Tm.mk op nm n a).at 1) ((Tm.mk op nm n a).at 0)]] else plainT (.mk op nm n a))
    else if op = 27 then (if no then mk 20 ((plainT (.mk op nm n a)).a.map fun x => mk 18 [x]) else plainT (.mk op nm n a))
    else if no then mk 18 [plainT (.mk op nm n a)] else plainT (.mk op nm n a)
def normL : List Tm → Bool → List Tm
  | [], _ => []
  | x :: r, no => normT x no :: normL r no
end
theorem normL_eq (a : List Tm) (no : Bool) : normL a no = a.map (normT · no) := by
  induction a with
  | nil => rfl
  | cons x r ih => rw [normL, ih]; rfl
/-- one step, of the plain form -/
def normS (p : Tm) (no : Bool) : Tm :=
  if p.op = 18 then normT (p.at 0) (!no)
  else if p.op = 19 ∨ p.op = 20 ∨ p.op = 16 ∨ p.op = 17 then mk (if no then turnedF p.op else p.op) (p.a.map (normT · no))
  else if no then mk 18 [p] else p
theorem normT_le (a b : Tm) (no : Bool) : normT (leT a b) no = if no then mk 18 [leT a b] else leT a b := by
  unfold leT
  rw [normT]
  have e : plainT (.mk 22 ⟨#[]⟩ 0 [a, b]) = .mk 22 ⟨#[]⟩ 0 [a, b] := plainT_no (by simp [Tm.op])
  rw [e]
  simp
theorem normT_not (a : Tm) (no : Bool) : normT (mk 18 [a]) no = normT a (!no) := by
  unfold mk
  rw [normT, if_pos rfl, normL, normL]; rfl
theorem len1 {a : List Tm} (h : a.length = 1) : ∃ x, a = [x] := by
  match a, h with
  | [x], _ => exact ⟨x, rfl⟩
theorem len2 {a : List Tm} (h : a.length = 2) : ∃ x y, a = [x, y] := by
  match a, h with
  | [x, y], _ => exact ⟨x, y, rfl⟩
theorem normT_step {t : Tm} (h : arT t = true) (no : Bool) : normT t no = normS (plainT t) no := by
  cases t with | mk op nm n a =>
  rw [arT] at h
  simp only [Bool.and_eq_true, Bool.or_eq_true, decide_eq_true_eq] at h
  obtain ⟨⟨h1, h2⟩, h3⟩ := h
  by_cases e21 : op = 21
  · subst e21
    obtain ⟨x, y, rfl⟩ := len2 (a := a) (by omega)
    rw [plainT_21 rfl, normT]
    simp only [Int.reduceEq, if_false, or_self, if_true, normL]
    unfold normS
    simp only [mk, Tm.op, Int.reduceEq, if_false, or_self, or_true, true_or, if_true, Tm.at, Tm.a, List.map]
    rw [show Tm.mk 18 ⟨#[]⟩ 0 [([x, y] : List Tm).getD 0 (.mk 21 nm n [x, y])] = mk 18 [x] from rfl, normT_not]
    cases no <;> simp [turnedF]
  by_cases e23 : op = 23
  · subst e23
    rw [plainT_23 rfl, normT]
    simp only [Int.reduceEq, if_false, or_self, if_true]
    unfold normS
    simp only [show (mk 18 [leT ((Tm.mk 23 nm n a).at 1) ((Tm.mk 23 nm n a).at 0)]).op = 18 from rfl, if_true]
    rw [show (mk 18 [leT ((Tm.mk 23 nm n a).at 1) ((Tm.mk 23 nm n a).at 0)]).at 0 = leT ((Tm.mk 23 nm n a).at 1) ((Tm.mk 23 nm n a).at 0) from rfl, normT_le]
    cases no <;> rfl
  by_cases e24 : op = 24
  · subst e24
    rw [plainT_24 rfl, normT]
    simp only [Int.reduceEq, if_false, or_self, if_true, plainT_24 (t := Tm.mk 24 nm n a) rfl]
    unfold normS
    simp only [mk, Tm.op, Int.reduceEq, if_false, or_self, true_or, if_true, Tm.a, List.map, normT_le]
    cases no <;> simp [turnedF]
  by_cases e27 : op = 27
  · subst e27
    rw [plainT_27 rfl, normT]
    simp only [Int.reduceEq, if_false, or_self, if_true, plainT_27 (t := Tm.mk 27 nm n a) rfl]
    unfold normS
    simp only [mk, Tm.op, Int.reduceEq, if_false, or_self, true_or, if_true, Tm.a, List.map, emptyT, normT_le]
    cases no <;> simp [turnedF]
  by_cases e18 : op = 18
  · subst e18
    obtain ⟨x, rfl⟩ := len1 (a := a) (by omega)
    rw [plainT_no (by simp [Tm.op]), normT, if_pos rfl]
    unfold normS
    rw [if_pos (show (Tm.mk 18 nm n [x]).op = 18 from rfl), normL, normL]; rfl
  by_cases e2 : op = 26 ∨ op = 25 ∨ op = 28
  · have hp : (plainT (.mk op nm n a)).op = 22 := by
      rcases e2 with rfl | rfl | rfl
      · rw [plainT_26 rfl]; rfl
      · rw [plainT_25 rfl]; rfl
      · rw [plainT_28 rfl]; rfl
    unfold normS
    rw [normT, hp, if_neg e18, if_neg (show ¬ (op = 19 ∨ op = 20) by omega), if_neg (show ¬ (op = 16 ∨ op = 17) by omega), if_neg e21, if_neg e23, if_neg e24, if_neg e27, if_neg (show ¬ (22 : Int) = 18 by decide), if_neg (show ¬ ((22 : Int) = 19 ∨ (22 : Int) = 20 ∨ (22 : Int) = 16 ∨ (22 : Int) = 17) by decide)]
  have hp : plainT (.mk op nm n a) = .mk op nm n a := plainT_no (by show op ≠ 21 ∧ op ≠ 23 ∧ op ≠ 24 ∧ op ≠ 26 ∧ op ≠ 25 ∧ op ≠ 28 ∧ op ≠ 27; omega)
  unfold normS
  rw [normT, hp, if_neg e18, show (Tm.mk op nm n a).op = op from rfl, if_neg e18]
  by_cases e19 : op = 19 ∨ op = 20
  · rw [if_pos e19, if_pos (show op = 19 ∨ op = 20 ∨ op = 16 ∨ op = 17 by omega), normL_eq]; rfl
  by_cases e16 : op = 16 ∨ op = 17
  · rw [if_neg e19, if_pos e16, if_pos (show op = 19 ∨ op = 20 ∨ op = 16 ∨ op = 17 by omega), normL_eq]; rfl
  rw [if_neg e19, if_neg e16, if_neg e21, if_neg e23, if_neg e24, if_neg e27, if_neg (show ¬ (op = 19 ∨ op = 20 ∨ op = 16 ∨ op = 17) by omega)]
end Go.V
/- What norm makes: few operations, of that it is itself, twice turned is not turned. -/
set_option linter.unusedVariables false
namespace Go.V
/-- what a right term is -/
structure RightSays (t : Tm) (m : Int) : Prop where
  op1 : 1 ≤ t.op
  op2 : t.op ≤ 28
  sort : m = 0 ∨ (shpAt t.op).sort = m
  nm1 : (shpAt t.op).name = true → nameF t.nm.data.toList = true
  nm2 : (shpAt t.op).name = false → t.nm = ⟨#[]⟩
  num : (shpAt t.op).number = false → t.n = 0
  len : (shpAt t.op).many = false → t.a.length = (shpAt t.op).a.length
  kids : ∀ (i : Nat) (h : i < t.a.length), rightT t.a[i] ((shpAt t.op).a.getD (bif (shpAt t.op).many then 0 else i) 0) = true
theorem rightL_iff (S : Shp) : ∀ (a : List Tm) (k : Nat), rightL S a k = true ↔ ∀ (i : Nat) (h : i < a.length), rightT a[i] (S.a.getD (bif S.many then 0 else k + i) 0) = true
  | [], k => by rw [rightL]; exact ⟨fun _ i h => absurd h (Nat.not_lt_zero _), fun _ => rfl⟩
  | x :: r, k => by
    rw [rightL, Bool.and_eq_true, rightL_iff S r (k + 1)]
    constructor
    · rintro ⟨h1, h2⟩ i h
      cases i with
      | zero => exact h1
      | succ i =>
        have := h2 i (by simpa using h)
        rw [show k + (i + 1) = k + 1 + i by omega]
        exact this
    · intro h
      refine ⟨h 0 (by simp), fun i hi => ?_⟩
      have := h (i + 1) (by simpa using hi)
      rw [show k + (i + 1) = k + 1 + i by omega] at this
      exact this
theorem right_iff (t : Tm) (m : Int) : rightT t m = true ↔ RightSays t m := by
  rw [rightT_eq]
  simp only [Bool.and_eq_true, decide_eq_true_eq, Bool.not_eq_true', rightL_iff, Nat.zero_add]
  constructor
  · rintro ⟨⟨⟨h1, h2⟩, h3⟩, h4⟩
    unfold badHead at h3
    simp only [Bool.or_eq_false_iff, Bool.and_eq_false_iff, decide_eq_false_iff_not, Bool.not_eq_false', Decidable.not_not] at h3
    obtain ⟨⟨⟨⟨s1, s2⟩, s3⟩, s4⟩, s5⟩ := h3
    refine ⟨h1, h2, s1, fun h => ?_, fun h => ?_, fun h => ?_, fun h => ?_, h4⟩
    · rcases s2 with s2 | s2
      · rw [h] at s2; cases s2
      · exact s2
    · rcases s3 with s3 | s3
      · rw [h] at s3; cases s3
      · exact s3
    · rcases s4 with s4 | s4
      · rw [h] at s4; cases s4
      · exact s4
    · rcases s5 with s5 | s5
      · rw [h] at s5; cases s5
      · omega
  · rintro ⟨h1, h2, s1, s2, s3, s4, s5, h4⟩
    refine ⟨⟨⟨h1, h2⟩, ?_⟩, h4⟩
    unfold badHead
    simp only [Bool.or_eq_false_iff, Bool.and_eq_false_iff, decide_eq_false_iff_not, Bool.not_eq_false', Decidable.not_not]
    refine ⟨⟨⟨⟨s1, ?_⟩, ?_⟩, ?_⟩, ?_⟩
    · cases h : (shpAt t.op).name
      · exact .inl rfl
      · exact .inr (s2 h)
    · cases h : (shpAt t.op).name
      · exact .inr (s3 h)
      · exact .inl rfl
    · cases h : (shpAt t.op).number
      · exact .inr (s4 h)
      · exact .inl rfl
    · cases h : (shpAt t.op).many
      · exact .inr (by have := s5 h; omega)
      · exact .inl rfl
theorem right_any {t : Tm} {m : Int} (h : rightT t m = true) : rightT t 0 = true := by
  rw [right_iff] at h ⊢
  exact { h with sort := .inl rfl }
theorem right_sort {t : Tm} {m : Int} (h : rightT t m = true) (hm : m ≠ 0) : (shpAt t.op).sort = m := by
  rw [right_iff] at h
  exact h.sort.resolve_left hm
theorem right_of {t : Tm} {m : Int} (h : rightT t 0 = true) (hm : (shpAt t.op).sort = m) : rightT t m = true := by
  rw [right_iff] at h ⊢
  exact { h with sort := .inr hm }
/-- of two -/
theorem right2 {op : Int} {nm : ByteArray} {n : Int} {a : List Tm} {m s1 s2 : Int} (h : rightT (.mk op nm n a) m = true) (hs : (shpAt op).a = [s1, s2]) (hm : (shpAt op).many = false) :
    ∃ x y, a = [x, y] ∧ rightT x s1 = true ∧ rightT y s2 = true := by
  rw [right_iff] at h
  have hl := h.len hm
  have hk := h.kids
  simp only [Tm.op, Tm.a] at hl hk
  rw [hs] at hl hk
  rw [hm] at hk
  obtain ⟨x, y, rfl⟩ := len2 hl
  exact ⟨x, y, rfl, hk 0 (by simp), hk 1 (by simp)⟩
theorem right1 {op : Int} {nm : ByteArray} {n : Int} {a : List Tm} {m s1 : Int} (h : rightT (.mk op nm n a) m = true) (hs : (shpAt op).a = [s1]) (hm : (shpAt op).many = false) :
    ∃ x, a = [x] ∧ rightT x s1 = true := by
  rw [right_iff] at h
  have hl := h.len hm
  have hk := h.kids
  simp only [Tm.op, Tm.a] at hl hk
  rw [hs] at hl hk
  rw [hm] at hk
  obtain ⟨x, rfl⟩ := len1 hl
  exact ⟨x, rfl, hk 0 (by simp)⟩
theorem right0 {op : Int} {nm : ByteArray} {n : Int} {a : List Tm} {m : Int} (h : rightT (.mk op nm n a) m = true) (hs : (shpAt op).a = []) (hm : (shpAt op).many = false) : a = [] := by
  rw [right_iff] at h
  have hl := h.len hm
  simp only [Tm.op, Tm.a] at hl
  rw [hs] at hl
  exact List.eq_nil_of_length_eq_zero hl
theorem rightM {op : Int} {nm : ByteArray} {n : Int} {a : List Tm} {m s1 : Int} (h : rightT (.mk op nm n a) m = true) (hs : (shpAt op).a = [s1]) (hm : (shpAt op).many = true) : ∀ x ∈ a, rightT x s1 = true := by
  rw [right_iff] at h
  have hk := h.kids
  simp only [Tm.op, Tm.a] at hk
  rw [hs, hm] at hk
  intro x hx
  obtain ⟨i, hi, rfl⟩ := List.getElem_of_mem hx
  exact hk i hi
theorem right_bare {op : Int} {nm : ByteArray} {n : Int} {a : List Tm} {m : Int} (h : rightT (.mk op nm n a) m = true) (hn : (shpAt op).name = false) (hm : (shpAt op).number = false) : nm = ⟨#[]⟩ ∧ n = 0 := by
  rw [right_iff] at h
  exact ⟨h.nm2 hn, h.num hm⟩
/-- the operations that make a bool -/
theorem sort4 {op : Int} (h1 : 1 ≤ op) (h2 : op ≤ 28) : (shpAt op).sort = 4 ↔ 15 ≤ op := by
  have : ∀ i : Fin 29, 1 ≤ i.1 → ((shpAt (i.1 : Int)).sort = 4 ↔ (15 : Int) ≤ i.1) := by decide
  have h3 := this ⟨op.toNat, by omega⟩ (by simp only; omega)
  simp only [Int.toNat_of_nonneg (show 0 ≤ op by omega)] at h3
  exact h3
theorem right4 {t : Tm} (h : rightT t 4 = true) : 15 ≤ t.op ∧ t.op ≤ 28 := by
  have hs := right_sort h (by decide)
  rw [right_iff] at h
  exact ⟨(sort4 h.op1 h.op2).1 hs, h.op2⟩
/-- a right bool, by its operation -/
theorem bool_cases {P : Tm → Prop} {t : Tm} (h : rightT t 4 = true)
    (p15 : ∀ nm n a, P (.mk 15 nm n a)) (p16 : ∀ op, op = 16 ∨ op = 17 → P (mk op []))
    (p18 : ∀ x, rightT x 4 = true → P (mk 18 [x])) (p19 : ∀ op a, op = 19 ∨ op = 20 → (∀ x ∈ a, rightT x 4 = true) → P (mk op a))
    (p21 : ∀ x y, rightT x 4 = true → rightT y 4 = true → P (mk 21 [x, y])) (p22 : ∀ x y, P (leT x y)) (p23 : ∀ op x y, 23 ≤ op → op ≤ 28 → P (mk op [x, y])) : P t := by
  obtain ⟨h1, h2⟩ := right4 h
  cases t with | mk op nm n a =>
  simp only [Tm.op] at h1 h2
  have hop : op = 15 ∨ op = 16 ∨ op = 17 ∨ op = 18 ∨ op = 19 ∨ op = 20 ∨ op = 21 ∨ op = 22 ∨ (23 ≤ op ∧ op ≤ 28) := by omega
  rcases hop with rfl | rfl | rfl | rfl | rfl | rfl | rfl | rfl | ⟨h3, h4⟩
  · exact p15 nm n a
  · obtain rfl := right0 h rfl rfl
    obtain ⟨rfl, rfl⟩ := right_bare h rfl rfl
    exact p16 _ (.inl rfl)
  · obtain rfl := right0 h rfl rfl
    obtain ⟨rfl, rfl⟩ := right_bare h rfl rfl
    exact p16 _ (.inr rfl)
  · obtain ⟨x, rfl, hx⟩ := right1 h rfl rfl
    obtain ⟨rfl, rfl⟩ := right_bare h rfl rfl
    exact p18 x hx
  · have hx := rightM h rfl rfl
    obtain ⟨rfl, rfl⟩ := right_bare h rfl rfl
    exact p19 _ a (.inl rfl) hx
  · have hx := rightM h rfl rfl
    obtain ⟨rfl, rfl⟩ := right_bare h rfl rfl
    exact p19 _ a (.inr rfl) hx
  · obtain ⟨x, y, rfl, hx, hy⟩ := right2 h rfl rfl
    obtain ⟨rfl, rfl⟩ := right_bare h rfl rfl
    exact p21 x y hx hy
  · obtain ⟨x, y, rfl, _, _⟩ := right2 h rfl rfl
    obtain ⟨rfl, rfl⟩ := right_bare h rfl rfl
    exact p22 x y
  · have hop : op = 23 ∨ op = 24 ∨ op = 25 ∨ op = 26 ∨ op = 27 ∨ op = 28 := by omega
    rcases hop with rfl | rfl | rfl | rfl | rfl | rfl
    all_goals
      obtain ⟨x, y, rfl, _, _⟩ := right2 h rfl rfl
      obtain ⟨rfl, rfl⟩ := right_bare h rfl rfl
      exact p23 _ x y h3 h4
/-! ### few -/
def fewN (a : List Tm) : Bool := a.head?.any fun x => decide (x.op = 15) || decide (x.op = 22)
mutual
def fewT : Tm → Bool
  | .mk op _ _ a => if op = 19 ∨ op = 20 then fewL a else if op = 18 then fewN a else decide (op = 16) || decide (op = 17) || decide (op = 15) || decide (op = 22)
def fewL : List Tm → Bool
  | [] => true
  | x :: r => fewT x && fewL r
end
theorem fewL_all (a : List Tm) : fewL a = a.all fewT := by
  induction a with
  | nil => rw [fewL]; rfl
  | cons x r ih => rw [fewL, ih]; rfl
theorem fewT_many {op : Int} (h : op = 19 ∨ op = 20) (a : List Tm) : fewT (mk op a) = a.all fewT := by
  unfold mk; rw [fewT, if_pos h, fewL_all]
theorem fewT_le (x y : Tm) : fewT (leT x y) = true := by unfold leT; rw [fewT]; rfl
theorem fewT_not {x : Tm} (h : x.op = 15 ∨ x.op = 22) : fewT (mk 18 [x]) = true := by
  unfold mk; rw [fewT, if_neg (by decide), if_pos rfl]; simpa [fewN] using h
theorem few_op {t : Tm} (h : fewT t = true) : 15 ≤ t.op ∧ t.op ≤ 22 ∧ t.op ≠ 21 := by
  cases t with | mk op nm n a =>
  rw [fewT] at h
  show 15 ≤ op ∧ op ≤ 22 ∧ op ≠ 21
  split at h
  · omega
  · split at h
    · omega
    · simp only [Bool.or_eq_true, decide_eq_true_eq] at h; omega
/-! ### what norm makes, by operation -/
theorem normT_15 (nm : ByteArray) (n : Int) (a : List Tm) (no : Bool) : normT (.mk 15 nm n a) no = if no then mk 18 [.mk 15 nm n a] else .mk 15 nm n a := by
  rw [normT]
  have e : plainT (.mk 15 nm n a) = .mk 15 nm n a := plainT_no (by simp [Tm.op])
  rw [e]; simp
theorem normT_16 {op : Int} (h : op = 16 ∨ op = 17) (no : Bool) : normT (mk op []) no = mk (if no then turnedF op else op) [] := by
  unfold mk
  rw [normT, if_neg (by omega), if_neg (by omega), if_pos h, normL]; rfl
theorem normT_19 {op : Int} (h : op = 19 ∨ op = 20) (a : List Tm) (no : Bool) : normT (mk op a) no = mk (if no then turnedF op else op) (a.map (normT · no)) := by
  unfold mk
  rw [normT, if_neg (by omega), if_pos h, normL_eq]; rfl
theorem normT_21 (x y : Tm) (no : Bool) : normT (mk 21 [x, y]) no = mk (if no then 19 else 20) [normT x (!no), normT y no] := by
  unfold mk
  rw [normT]
  simp [normL, mk]
theorem normT_23 (x y : Tm) (no : Bool) : normT (mk 23 [x, y]) no = if no then leT y x else mk 18 [leT y x] := by
  unfold mk
  rw [normT]; cases no <;> rfl
theorem normT_24 (x y : Tm) (no : Bool) : normT (mk 24 [x, y]) no = if no then mk 20 [mk 18 [leT x y], mk 18 [leT y x]] else mk 19 [leT x y, leT y x] := by
  unfold mk
  rw [normT]; cases no <;> rfl
theorem normT_27 (x y : Tm) (no : Bool) : normT (mk 27 [x, y]) no = if no then mk 20 [mk 18 [emptyT (mk 13 [x, y])], mk 18 [emptyT (mk 13 [y, x])]] else mk 19 [emptyT (mk 13 [x, y]), emptyT (mk 13 [y, x])] := by
  unfold mk
  rw [normT]; cases no <;> rfl
theorem normT_26 (x y : Tm) (no : Bool) : normT (mk 26 [x, y]) no = if no then mk 18 [emptyT (mk 13 [x, y])] else emptyT (mk 13 [x, y]) := by
  unfold mk
  rw [normT]; cases no <;> rfl
theorem normT_25 (x y : Tm) (no : Bool) : normT (mk 25 [x, y]) no = if no then mk 18 [emptyT (mk 13 [mk 10 [x], y])] else emptyT (mk 13 [mk 10 [x], y]) := by
  unfold mk
  rw [normT]; cases no <;> rfl
theorem normT_28 (x y : Tm) (no : Bool) : normT (mk 28 [x, y]) no = if no then mk 18 [emptyT (mk 13 [mk 10 [x], mk 10 [y]])] else emptyT (mk 13 [mk 10 [x], mk 10 [y]]) := by
  unfold mk
  rw [normT]; cases no <;> rfl
/-- those that are made of numbers, sets and nodes: what becomes of them is made of these alone -/
inductive Flat (x y : Tm) : Tm → Tm → Prop
  | le (u : Tm) : u.op = 22 → u.dep ≤ max x.dep y.dep + 4 → (∀ no, normT u no = if no then mk 18 [u] else u) → Flat x y u (mk 18 [u])
  | not (u : Tm) : u.op = 22 → u.dep ≤ max x.dep y.dep + 4 → (∀ no, normT u no = if no then mk 18 [u] else u) → Flat x y (mk 18 [u]) u
  | two (u v : Tm) : u.op = 22 → v.op = 22 → u.dep ≤ max x.dep y.dep + 3 → v.dep ≤ max x.dep y.dep + 3 → (∀ no, normT u no = if no then mk 18 [u] else u) → (∀ no, normT v no = if no then mk 18 [v] else v) → Flat x y (mk 19 [u, v]) (mk 20 [mk 18 [u], mk 18 [v]])
theorem flat_le (a b x y : Tm) (h : (leT a b).dep ≤ max x.dep y.dep + 4) : Flat x y (leT a b) (mk 18 [leT a b]) := .le _ rfl h fun no => normT_le a b no
theorem dep_le (a b : Tm) : (leT a b).dep = max a.dep b.dep + 1 := by unfold leT; rw [Tm.dep_mk, Tm.depL_cons, Tm.depL_cons, Tm.depL_nil]; omega
theorem dep_mk1 (op : Int) (a : Tm) : (mk op [a]).dep = a.dep + 1 := by unfold mk; rw [Tm.dep_mk, Tm.depL_cons, Tm.depL_nil]; omega
theorem dep_mk2 (op : Int) (a b : Tm) : (mk op [a, b]).dep = max a.dep b.dep + 1 := by unfold mk; rw [Tm.dep_mk, Tm.depL_cons, Tm.depL_cons, Tm.depL_nil]; omega
theorem dep_empty (a : Tm) : (emptyT a).dep = a.dep + 2 := by
  unfold emptyT; rw [dep_le, Tm.dep_mk, Tm.dep_mk, Tm.depL_cons, Tm.depL_nil]; have := a.dep_pos; omega
theorem normT_empty (a : Tm) (no : Bool) : normT (emptyT a) no = if no then mk 18 [emptyT a] else emptyT a := normT_le _ _ _
theorem normT_flat {op : Int} (x y : Tm) (h1 : 23 ≤ op) (h2 : op ≤ 28) : Flat x y (normT (mk op [x, y]) false) (normT (mk op [x, y]) true) := by
  have hop : op = 23 ∨ op = 24 ∨ op = 25 ∨ op = 26 ∨ op = 27 ∨ op = 28 := by omega
  rcases hop with rfl | rfl | rfl | rfl | rfl | rfl
  · rw [normT_23, normT_23]
    exact .not _ rfl (by rw [dep_le]; omega) fun no => normT_le y x no
  · rw [normT_24, normT_24]
    exact .two _ _ rfl rfl (by rw [dep_le]; omega) (by rw [dep_le]; omega) (normT_le x y) (normT_le y x)
  · rw [normT_25, normT_25, if_neg (by decide), if_pos rfl]
    exact .le _ rfl (by rw [dep_empty, dep_mk2, dep_mk1]; omega) (normT_empty _)
  · rw [normT_26, normT_26, if_neg (by decide), if_pos rfl]
    exact .le _ rfl (by rw [dep_empty, dep_mk2]; omega) (normT_empty _)
  · rw [normT_27, normT_27]
    exact .two _ _ rfl rfl (by rw [dep_empty, dep_mk2]; omega) (by rw [dep_empty, dep_mk2]; omega) (normT_empty _) (normT_empty _)
  · rw [normT_28, normT_28, if_neg (by decide), if_pos rfl]
    exact .le _ rfl (by rw [dep_empty, dep_mk2, dep_mk1, dep_mk1]; omega) (normT_empty _)
theorem few_of22 {u : Tm} (h : u.op = 22) : fewT u = true := by
  cases u with | mk op nm n a =>
  simp only [Tm.op] at h
  subst h
  rw [fewT]; rfl
structure FlatSays (x y p q : Tm) : Prop where
  fp : fewT p = true
  fq : fewT q = true
  pt : normT p true = q
  qt : normT q true = p
  pf : normT p false = p
  qf : normT q false = q
  dp : p.dep ≤ max x.dep y.dep + 5
  dq : q.dep ≤ max x.dep y.dep + 5
theorem flat_says {x y p q : Tm} (h : Flat x y p q) : FlatSays x y p q := by
  cases h with
  | le u h1 h2 h3 =>
    exact ⟨few_of22 h1, fewT_not (.inr h1), h3 true, by rw [normT_not]; exact h3 false, h3 false, by rw [normT_not]; exact h3 true, by omega, by rw [dep_mk1]; omega⟩
  | not u h1 h2 h3 =>
    exact ⟨fewT_not (.inr h1), few_of22 h1, by rw [normT_not]; exact h3 false, h3 true, by rw [normT_not]; exact h3 true, h3 false, by rw [dep_mk1]; omega, by omega⟩
  | two u v h1 h2 h3 h4 h5 h6 =>
    have g1 := h5 true
    have g2 := h5 false
    have g3 := h6 true
    have g4 := h6 false
    simp only [if_true, Bool.false_eq_true, if_false] at g1 g2 g3 g4
    refine ⟨?_, ?_, ?_, ?_, ?_, ?_, ?_, ?_⟩
    · rw [fewT_many (.inl rfl)]; simp [few_of22 h1, few_of22 h2]
    · rw [fewT_many (.inr rfl)]; simp [fewT_not (.inr h1 : _ ∨ u.op = 22), fewT_not (.inr h2 : _ ∨ v.op = 22)]
    · rw [normT_19 (.inl rfl)]; simp [g1, g3, turnedF]
    · rw [normT_19 (.inr rfl)]; simp [normT_not, g2, g4, turnedF]
    · rw [normT_19 (.inl rfl)]; simp [g2, g4]
    · rw [normT_19 (.inr rfl)]; simp [normT_not, g1, g3]
    · rw [dep_mk2]; omega
    · rw [dep_mk2, dep_mk1, dep_mk1]; omega
/-- what is made has few operations -/
theorem norm_few (t : Tm) : rightT t 4 = true → ∀ no, fewT (normT t no) = true := by
  induction t using Tm.ind' with
  | h t ih =>
    intro h
    revert ih
    refine bool_cases (P := fun t => (∀ x ∈ t.a, rightT x 4 = true → ∀ no, fewT (normT x no) = true) → ∀ no, fewT (normT t no) = true) h ?_ ?_ ?_ ?_ ?_ ?_ ?_
    · intro nm n a _ no
      rw [normT_15]
      cases no
      · show fewT (Tm.mk 15 nm n a) = true; rw [fewT]; rfl
      · exact fewT_not (.inl rfl)
    · intro op ho _ no
      rw [normT_16 ho]
      unfold mk
      rw [fewT]
      rcases ho with rfl | rfl <;> cases no <;> rfl
    · intro x hx ih no
      rw [normT_not]
      exact ih x (by simp [mk, Tm.a]) hx _
    · intro op a ho hx ih no
      rw [normT_19 ho, fewT_many (by rcases ho with rfl | rfl <;> cases no <;> simp [turnedF]), List.all_eq_true]
      intro y hy
      obtain ⟨x, hx', rfl⟩ := List.mem_map.1 hy
      exact ih x hx' (hx x hx') _
    · intro x y hx hy ih no
      rw [normT_21, fewT_many (by cases no <;> simp)]
      simp only [List.all_cons, List.all_nil, Bool.and_true, Bool.and_eq_true]
      exact ⟨ih x (by simp [mk, Tm.a]) hx _, ih y (by simp [mk, Tm.a]) hy _⟩
    · intro x y _ no
      rw [normT_le]
      cases no
      · exact fewT_le x y
      · exact fewT_not (.inr rfl)
    · intro op x y h1 h2 _ no
      have hf := flat_says (normT_flat x y h1 h2)
      cases no
      · exact hf.fp
      · exact hf.fq
theorem depL_le {a : List Tm} {n : Nat} (h : ∀ x ∈ a, x.dep ≤ n) : Tm.depL a ≤ n := by
  induction a with
  | nil => rw [Tm.depL_nil]; omega
  | cons x r ih => rw [Tm.depL_cons]; have := h x (by simp); have := ih fun y hy => h y (by simp [hy]); omega
/-- and is not much deeper -/
theorem norm_dep (t : Tm) : rightT t 4 = true → ∀ no, (normT t no).dep ≤ t.dep + 4 := by
  induction t using Tm.ind' with
  | h t ih =>
    intro h
    revert ih
    refine bool_cases (P := fun t => (∀ x ∈ t.a, rightT x 4 = true → ∀ no, (normT x no).dep ≤ x.dep + 4) → ∀ no, (normT t no).dep ≤ t.dep + 4) h ?_ ?_ ?_ ?_ ?_ ?_ ?_
    · intro nm n a _ no
      rw [normT_15]
      cases no
      · show (Tm.mk 15 nm n a).dep ≤ _; omega
      · show (mk 18 _).dep ≤ _; rw [dep_mk1]; omega
    · intro op ho _ no
      rw [normT_16 ho]
      unfold mk
      rw [Tm.dep_mk, Tm.dep_mk]; omega
    · intro x hx ih no
      rw [normT_not, dep_mk1]
      have := ih x (by simp [mk, Tm.a]) hx (!no)
      omega
    · intro op a ho hx ih no
      rw [normT_19 ho]
      unfold mk
      rw [Tm.dep_mk, Tm.dep_mk]
      have : Tm.depL (a.map (normT · no)) ≤ Tm.depL a + 4 := depL_le fun y hy => by
        obtain ⟨x, hx', rfl⟩ := List.mem_map.1 hy
        have := ih x hx' (hx x hx') no
        have := Tm.dep_mem hx'
        omega
      omega
    · intro x y hx hy ih no
      rw [normT_21, dep_mk2, dep_mk2]
      have := ih x (by simp [mk, Tm.a]) hx (!no)
      have := ih y (by simp [mk, Tm.a]) hy no
      omega
    · intro x y _ no
      rw [normT_le]
      cases no
      · show (leT x y).dep ≤ _; omega
      · show (mk 18 _).dep ≤ _; rw [dep_mk1]; omega
    · intro op x y h1 h2 _ no
      have hf := flat_says (normT_flat x y h1 h2)
      rw [dep_mk2]
      cases no
      · have := hf.dp; omega
      · have := hf.dq; omega
theorem turned_turned {op : Int} (h : 16 ≤ op) (h' : op ≤ 20) : turnedF (turnedF op) = op := by
  have : op = 16 ∨ op = 17 ∨ op = 18 ∨ op = 19 ∨ op = 20 := by omega
  rcases this with rfl | rfl | rfl | rfl | rfl <;> rfl
/-- made again: as if at once -/
theorem norm_norm (t : Tm) : rightT t 4 = true → ∀ no b, normT (normT t no) b = normT t (no ^^ b) := by
  induction t using Tm.ind' with
  | h t ih =>
    intro h
    revert ih
    refine bool_cases (P := fun t => (∀ x ∈ t.a, rightT x 4 = true → ∀ no b, normT (normT x no) b = normT x (no ^^ b)) → ∀ no b, normT (normT t no) b = normT t (no ^^ b)) h ?_ ?_ ?_ ?_ ?_ ?_ ?_
    · intro nm n a _ no b
      rw [normT_15, normT_15]
      cases no <;> cases b <;> simp [normT_15, normT_not]
    · intro op ho _ no b
      rw [normT_16 ho, normT_16 ho, normT_16 (by rcases ho with rfl | rfl <;> cases no <;> simp [turnedF])]
      cases no <;> cases b <;> simp [turned_turned (op := op) (by omega) (by omega)]
    · intro x hx ih no b
      rw [normT_not, normT_not, ih x (by simp [mk, Tm.a]) hx]
      cases no <;> cases b <;> rfl
    · intro op a ho hx ih no b
      rw [normT_19 ho, normT_19 ho, normT_19 (by rcases ho with rfl | rfl <;> cases no <;> simp [turnedF]), List.map_map]
      congr 1
      · cases no <;> cases b <;> simp [turned_turned (op := op) (by omega) (by omega)]
      · exact List.map_congr_left fun x hx' => ih x hx' (hx x hx') no b
    · intro x y hx hy ih no b
      rw [normT_21, normT_21, normT_19 (by cases no <;> simp)]
      simp only [List.map, ih x (by simp [mk, Tm.a]) hx, ih y (by simp [mk, Tm.a]) hy]
      cases no <;> cases b <;> rfl
    · intro x y _ no b
      rw [normT_le, normT_le]
      cases no <;> cases b <;> simp [normT_le, normT_not]
    · intro op x y h1 h2 _ no b
      have hf := flat_says (normT_flat x y h1 h2)
      cases no <;> cases b
      · exact hf.pf
      · exact hf.pt
      · exact hf.qf
      · exact hf.qt
/-- what has few operations stays as it is -/
theorem few_norm (t : Tm) : rightT t 4 = true → fewT t = true → normT t false = t := by
  induction t using Tm.ind' with
  | h t ih =>
    intro h
    revert ih
    refine bool_cases (P := fun t => (∀ x ∈ t.a, rightT x 4 = true → fewT x = true → normT x false = x) → fewT t = true → normT t false = t) h ?_ ?_ ?_ ?_ ?_ ?_ ?_
    · intro nm n a _ _; rw [normT_15]; rfl
    · intro op ho _ _; rw [normT_16 ho]; rfl
    · intro x hx ih hf
      rw [normT_not]
      unfold mk at hf
      rw [fewT, if_neg (by decide), if_pos rfl] at hf
      simp only [fewN, List.head?_cons, Option.any_some, Bool.or_eq_true, decide_eq_true_eq] at hf
      clear ih
      revert hf
      refine bool_cases (P := fun x => x.op = 15 ∨ x.op = 22 → normT x (!false) = mk 18 [x]) hx ?_ ?_ ?_ ?_ ?_ ?_ ?_
      · intro nm n a _; rw [normT_15]; rfl
      · intro op ho hf; exfalso; simp only [mk, Tm.op] at hf; omega
      · intro x _ hf; exfalso; simp only [mk, Tm.op] at hf; omega
      · intro op a ho _ hf; exfalso; simp only [mk, Tm.op] at hf; omega
      · intro x y _ _ hf; exfalso; simp only [mk, Tm.op] at hf; omega
      · intro x y _; rw [normT_le]; rfl
      · intro op x y h1 h2 hf; exfalso; simp only [mk, Tm.op] at hf; omega
    · intro op a ho hx ih hf
      rw [fewT_many ho, List.all_eq_true] at hf
      rw [normT_19 ho]
      have : a.map (normT · false) = a := by
        conv => rhs; rw [← List.map_id a]
        exact List.map_congr_left fun x hx' => ih x hx' (hx x hx') (hf x hx')
      rw [this]; rfl
    · intro x y _ _ _ hf
      exact absurd rfl (few_op hf).2.2
    · intro x y _ _; rw [normT_le]; rfl
    · intro op x y h1 h2 _ hf
      have := few_op hf
      simp only [mk, Tm.op] at this; omega
end Go.V
/- Rows of terms that grow; what is given up at a call's end. -/
set_option linter.unusedVariables false
namespace Go.V
open Go
section
variable {P : Program} {g : FuncId} {args : List D} {L L' : List Bx} {a : AE}
theorem AFn.ofGe (h : ASpec P g args [] fun a' L' => Ge a' L' a []) : AFn P g args [] a := ASpec.ge h fun a' L' hg => ⟨a, [], hg, rfl, rfl⟩
theorem ge_drop (a : AE) (L : List Bx) : Ge a L a [] := ⟨by cases a <;> trivial, Gl.drop (List.nil_sublist _)⟩
theorem ge_of {a b : AE} (h : a = b) : Ge a L b [] := by subst h; exact ge_drop a L
theorem ge_trans {a b c : AE} {L1 L2 L3 : List Bx} (h : Ge a L1 b L2) (h' : Ge b L2 c L3) : Ge a L1 c L3 :=
  ⟨by cases a <;> cases b <;> cases c <;> first | trivial | exact h.1 | exact h'.1, h.2.trans h'.2⟩
end
def bvT (b c : Nat) : List Tm → D
  | [] => .nil
  | x :: l => .sl b 0 (l.length + 1) c
def bbT (e b c : Nat) : List Tm → List Bx
  | [] => []
  | x :: l => [⟨b, (Tm.rows (x :: l)).flatten, .row e 4 c⟩]
section
variable {L : List Bx} {kl : D → List Bx → Prop} {e b c : Nat}
theorem rows1_src {x : Tm} : asrc 4 (.row 4 (Tm.rows [x])) L 1 x.cs := ⟨rfl, by rw [Tm.rows_len]; rfl, by rw [Tm.rows_cons, Tm.rows_nil]; simp⟩
theorem a_appT0 {x : Tm} (h : ∀ b c, kl (bvT b c [x]) (⟨b, (Tm.rows [x]).flatten, .row e 4 c⟩ :: L)) : aapp e 4 56 .nil (.row 4 (Tm.rows [x])) L kl := by
  refine V.a_app0 1 x.cs rows1_src (Tm.cs_one x) (by omega) (by omega) fun b c => ?_
  have := h b c
  rw [Tm.rows_cons, Tm.rows_nil] at this
  simp only [List.flatten_cons, List.flatten_nil, List.append_nil] at this
  exact this
theorem a_appT1 {x y : Tm} {l : List Tm} (i : Nat) (hi : L[i]? = some ⟨b, (Tm.rows (y :: l)).flatten, .row e 4 c⟩) (hb : (l.length + 2) * 56 ≤ 140737488355328)
    (h : ∀ b' c', kl (bvT b' c' (y :: l ++ [x])) (L.set i ⟨b', (Tm.rows (y :: l ++ [x])).flatten, .row e 4 c'⟩)) : aapp e 4 56 (bvT b c (y :: l)) (.row 4 (Tm.rows [x])) L kl := by
  refine V.a_app i _ 1 x.cs hi (by rw [Tm.flat_len]; rfl) rows1_src (Tm.cs_one x) hb fun b' c' => ?_
  have := h b' c'
  have e1 : (Tm.rows (y :: l ++ [x])).flatten = (Tm.rows (y :: l)).flatten ++ x.cs := by
    rw [Tm.rows_app, List.flatten_append, Tm.rows_cons x, Tm.rows_nil]; simp
  rw [e1] at this
  have e2 : bvT b' c' (y :: l ++ [x]) = .sl b' 0 (l.length + 1 + 1) c' := by
    show D.sl b' 0 ((l ++ [x]).length + 1) c' = _
    rw [List.length_append]; rfl
  rw [e2] at this
  exact this
/-- what has grown is a term's from now on -/
theorem ge_mkT {o : Int} {s : ByteArray} {n : Int} {l : List Tm} (h : l = [] ∨ ∃ i : Nat, L[i]? = some (Bx.mk b (Tm.rows l).flatten (.row e 4 c))) :
    Ge (.ret (.agg [.i o, .s s, .i n, bvT b c l])) L (.ret (Tm.mk o s n l).d) [] := by
  refine ⟨trivial, ?_⟩
  cases l with
  | nil =>
    refine Gl.trans (L1 := L) (Gl.nil 4 (ds' := [(Tm.mk o s n []).d]) ?_ (WkB.refl _ _ _)) (Gl.drop (List.nil_sublist _))
    rw [Tm.d, Tm.mk_d, Tm.rows_nil]
    exact .cons (.agg (.cons (.refl _) (.cons (.refl _) (.cons (.refl _) (.cons .hit .nil))))) .nil
  | cons y l =>
    obtain ⟨i, hi⟩ := h.resolve_left (by simp)
    refine Gl.trans (Gl.fz (n := l.length + 1) (c := c) (ds' := [(Tm.mk o s n (y :: l)).d]) i hi (by rw [Tm.flat_len]; rfl) ?_ (WkB.refl _ _ _)) (Gl.drop (List.nil_sublist _))
    rw [Tm.d, Tm.mk_d, show l.length + 1 = (y :: l).length from rfl, chunk_rows]
    exact .cons (.agg (.cons (.refl _) (.cons (.refl _) (.cons (.refl _) (.cons .hit .nil))))) .nil
end
/-- where the first is such, -1: none is -/
def idxF (f : Tm → Bool) : List Tm → Nat → Int
  | [], _ => -1
  | x :: r, i => if f x then i else idxF f r (i + 1)
theorem idxF_any (f : Tm → Bool) : ∀ (l : List Tm) (i : Nat), decide (idxF f l i ≥ 0) = l.any f
  | [], _ => rfl
  | x :: r, i => by
    rw [idxF, List.any_cons]
    cases h : f x
    · exact idxF_any f r (i + 1)
    · simp
def NormF (t : Tm) : Tm × Int :=
  if (sortF t).2 ≠ 0 then (mk 0 [], (sortF t).2) else if (sortF t).1 ≠ 4 then (mk 0 [], 3) else if (sortF (normT t false)).2 ≠ 0 then (mk 0 [], 7) else (normT t false, 0)
def IsF (t : Tm) : Bool := decide ((sortF t).2 = 0) && decide ((sortF t).1 = 4) && fewT t
theorem sortF_ok {t : Tm} (h : (sortF t).2 = 0) : t.size ≤ 2000 ∧ t.dep ≤ 100 ∧ rightT t 0 = true ∧ (sortF t).1 = (shpAt t.op).sort := by
  rw [sortF_eq] at h ⊢
  split at h
  · cases h
  · next h1 =>
    rw [if_neg h1]
    split at h
    · next h2 => rw [if_pos h2]; exact ⟨by omega, by omega, h2, rfl⟩
    · cases h
theorem sortF_mk {t : Tm} {s : Int} (h1 : t.size ≤ 2000) (h2 : t.dep ≤ 100) (h3 : rightT t s = true) (hs : s ≠ 0) : sortF t = (s, 0) := by
  rw [sortF_eq, if_neg (by omega), if_pos (right_any h3), right_sort h3 hs]
theorem sortF_bool {t : Tm} (h : (sortF t).2 = 0) (h' : (sortF t).1 = 4) : t.size ≤ 2000 ∧ t.dep ≤ 100 ∧ rightT t 4 = true := by
  obtain ⟨h1, h2, h3, h4⟩ := sortF_ok h
  exact ⟨h1, h2, right_of h3 (h4 ▸ h')⟩
end Go.V
