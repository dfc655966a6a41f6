/- Sets and bools obey their laws: the law alone. -/
import Derived.Test.YtokpeggkofjclaaGreatDoorM6
import Derived.Test.YtokpeggkofjclaaGreatDoorE3
set_option linter.unusedVariables false
namespace Go.V
open Go
section
variable {w : Wd}
/-- of one -/
theorem rt1 {op m s : Int} {x : Tm} (h1 : 1 ≤ op) (h2 : op ≤ 28) (hs : (shpAt op).sort = m) (ha : (shpAt op).a = [s]) (hn : (shpAt op).name = false) (hx : rightT x s = true) : rightT (mk op [x]) m = true := by
  rw [right_iff]
  refine ⟨h1, h2, .inr hs, fun h => ?_, fun _ => rfl, fun _ => rfl, fun _ => ?_, fun i hi => ?_⟩
  · rw [show (mk op [x]).op = op from rfl, hn] at h; cases h
  · show [x].length = (shpAt op).a.length; rw [ha]; rfl
  · obtain rfl : i = 0 := by change i < 1 at hi; omega
    show rightT x ((shpAt op).a.getD (bif (shpAt op).many then 0 else 0) 0) = true
    rw [ha]
    cases (shpAt op).many <;> exact hx
/-- of two -/
theorem rt2 {op m s s' : Int} {x y : Tm} (h1 : 1 ≤ op) (h2 : op ≤ 28) (hs : (shpAt op).sort = m) (ha : (shpAt op).a = [s, s']) (hm : (shpAt op).many = false) (hn : (shpAt op).name = false) (hx : rightT x s = true) (hy : rightT y s' = true) : rightT (mk op [x, y]) m = true := by
  rw [right_iff]
  refine ⟨h1, h2, .inr hs, fun h => ?_, fun _ => rfl, fun _ => rfl, fun _ => ?_, fun i hi => ?_⟩
  · rw [show (mk op [x, y]).op = op from rfl, hn] at h; cases h
  · show [x, y].length = (shpAt op).a.length; rw [ha]; rfl
  · show rightT [x, y][i] ((shpAt op).a.getD (bif (shpAt op).many then 0 else i) 0) = true
    rw [ha, hm]
    change i < 2 at hi
    match i, hi with
    | 0, _ => exact hx
    | 1, _ => exact hy
/-- of two of a kind, though it takes many -/
theorem rtM {op m s : Int} {x y : Tm} (h1 : 1 ≤ op) (h2 : op ≤ 28) (hs : (shpAt op).sort = m) (ha : (shpAt op).a = [s]) (hm : (shpAt op).many = true) (hn : (shpAt op).name = false) (hx : rightT x s = true) (hy : rightT y s = true) : rightT (mk op [x, y]) m = true := by
  rw [right_iff]
  refine ⟨h1, h2, .inr hs, fun h => ?_, fun _ => rfl, fun _ => rfl, fun h => ?_, fun i hi => ?_⟩
  · rw [show (mk op [x, y]).op = op from rfl, hn] at h; cases h
  · rw [show (mk op [x, y]).op = op from rfl, hm] at h; cases h
  · show rightT [x, y][i] ((shpAt op).a.getD (bif (shpAt op).many then 0 else i) 0) = true
    rw [ha, hm]
    change i < 2 at hi
    match i, hi with
    | 0, _ => exact hx
    | 1, _ => exact hy
theorem cnt_nn : ∀ l : List Bool, 0 ≤ cntF l ∧ cntF l ≤ l.length
  | [] => ⟨Int.le_refl _, Int.le_refl _⟩
  | x :: r => by
    have := cnt_nn r
    rw [cntF, List.length_cons]
    split <;> omega
theorem cnt_two (f g : Nat → Bool) : ∀ l : List Nat, cntF (l.map fun i => f i || g i) + cntF (l.map fun i => f i && g i) = cntF (l.map f) + cntF (l.map g)
  | [] => rfl
  | x :: r => by
    have := cnt_two f g r
    simp only [List.map_cons, cntF]
    cases f x <;> cases g x <;> simp <;> omega
theorem set_map {v : Vl} (h : OkV w 2 v) : (List.range w.nodes.toNat).map (fun i => v.s.getD i false) = v.s := by
  apply List.ext_getElem
  · rw [List.length_map, List.length_range, h.len, if_pos rfl]
  · intro i h1 h2
    rw [List.getElem_map, List.getElem_range, List.getD_eq_getElem?_getD, List.getElem?_eq_getElem h2, Option.getD_some]
theorem ev1 {op : Int} {x : Tm} {v : Vl} (h : evV w x = .ok v) : evV w (mk op [x]) = opV w op ⟨#[]⟩ 0 [v] := by
  rw [ev_mk, evL1, h]
theorem ev2 {op : Int} {x y : Tm} {v u : Vl} (h : evV w x = .ok v) (h' : evV w y = .ok u) : evV w (mk op [x, y]) = opV w op ⟨#[]⟩ 0 [v, u] := by
  rw [ev_mk, evL2, h, h']
theorem fit_in {n : Int} (h1 : -9223372036854775808 ≤ n) (h2 : n ≤ 9223372036854775807) : fit n = .ok (vI n) := by
  unfold fit; rw [if_pos]; unfold inI; rw [decide_eq_true h1, decide_eq_true h2]; rfl
def lawT (x y : Tm) (s : Int) : Tm :=
  if s = 2 then mk 24 [mk 4 [mk 3 [mk 11 [x, y]], mk 3 [mk 12 [x, y]]], mk 4 [mk 3 [x], mk 3 [y]]]
  else if s = 4 then mk 19 [mk 21 [mk 20 [mk 18 [x], y], mk 21 [x, y]], mk 21 [mk 21 [x, y], mk 20 [mk 18 [x], y]]]
  else if s = 1 then mk 20 [mk 22 [x, y], mk 23 [y, x]]
  else mk 19 [mk 21 [mk 28 [x, y], mk 25 [x, mk 10 [y]]], mk 21 [mk 25 [x, mk 10 [y]], mk 28 [x, y]]]
theorem law_right {x y : Tm} {s : Int} (h1 : 1 ≤ s) (h2 : s ≤ 4) (hx : rightT x s = true) (hy : rightT y s = true) : rightT (lawT x y s) 4 = true := by
  have hs : s = 1 ∨ s = 2 ∨ s = 3 ∨ s = 4 := by omega
  unfold lawT
  rcases hs with rfl | rfl | rfl | rfl
  · exact rtM (by decide) (by decide) rfl rfl rfl rfl (rt2 (by decide) (by decide) rfl rfl rfl rfl hx hy) (rt2 (by decide) (by decide) rfl rfl rfl rfl hy hx)
  · have c : ∀ {z}, rightT z 2 = true → rightT (mk 3 [z]) 1 = true := fun h => rt1 (by decide) (by decide) rfl rfl rfl h
    have a : ∀ {z z'}, rightT z 1 = true → rightT z' 1 = true → rightT (mk 4 [z, z']) 1 = true := fun h h' => rt2 (by decide) (by decide) rfl rfl rfl rfl h h'
    exact rt2 (by decide) (by decide) rfl rfl rfl rfl (a (c (rt2 (by decide) (by decide) rfl rfl rfl rfl hx hy)) (c (rt2 (by decide) (by decide) rfl rfl rfl rfl hx hy))) (a (c hx) (c hy))
  · have i : ∀ {z z'}, rightT z 4 = true → rightT z' 4 = true → rightT (mk 21 [z, z']) 4 = true := fun h h' => rt2 (by decide) (by decide) rfl rfl rfl rfl h h'
    have a : rightT (mk 28 [x, y]) 4 = true := rt2 (by decide) (by decide) rfl rfl rfl rfl hx hy
    have b : rightT (mk 25 [x, mk 10 [y]]) 4 = true := rt2 (by decide) (by decide) rfl rfl rfl rfl hx (rt1 (by decide) (by decide) rfl rfl rfl hy)
    exact rtM (by decide) (by decide) rfl rfl rfl rfl (i a b) (i b a)
  · have i : ∀ {z z'}, rightT z 4 = true → rightT z' 4 = true → rightT (mk 21 [z, z']) 4 = true := fun h h' => rt2 (by decide) (by decide) rfl rfl rfl rfl h h'
    have a : rightT (mk 20 [mk 18 [x], y]) 4 = true := rtM (by decide) (by decide) rfl rfl rfl rfl (rt1 (by decide) (by decide) rfl rfl rfl hx) hy
    have b : rightT (mk 21 [x, y]) 4 = true := i hx hy
    exact rtM (by decide) (by decide) rfl rfl rfl rfl (i a b) (i b a)
theorem law_val {x y : Tm} {s : Int} {u v : Vl} (hw : rightW w = true) (h1 : 1 ≤ s) (h2 : s ≤ 4) (hx : rightT x s = true) (hy : rightT y s = true) (ex : evV w x = .ok u) (ey : evV w y = .ok v) : evV w (lawT x y s) = .ok (vB true) := by
  have ou := evV_ok hw hx (by omega) ex
  have ov := evV_ok hw hy (by omega) ey
  have hs : s = 1 ∨ s = 2 ∨ s = 3 ∨ s = 4 := by omega
  have both : ∀ {a b : Tm} {p : Bool}, evV w a = .ok (vB p) → evV w b = .ok (vB p) → evV w (mk 19 [mk 21 [a, b], mk 21 [b, a]]) = .ok (vB true) := by
    intro a b p ha hb
    rw [ev2 (ev2 ha hb) (ev2 hb ha)]
    cases p <;> rfl
  unfold lawT
  rcases hs with rfl | rfl | rfl | rfl
  · rw [if_neg (by decide), if_neg (by decide), if_pos rfl, ev2 (ev2 ex ey) (ev2 ey ex)]
    show Except.ok (vB (decide (u.n ≤ v.n) || (decide (v.n < u.n) || false))) = _
    rw [Bool.or_false, ← Bool.decide_or, decide_eq_true (by omega)]
  · rw [if_pos rfl]
    obtain ⟨w1, w2, _, _⟩ := rightW_spec hw
    have n0 : (w.nodes.toNat : Int) = w.nodes := by omega
    have c0 : ∀ f : Nat → Bool, 0 ≤ cntF (whereF w f).s ∧ cntF (whereF w f).s ≤ 64 := by
      intro f
      have := cnt_nn (whereF w f).s
      have hl : (whereF w f).s.length = w.nodes.toNat := by simp [whereF]
      omega
    have e1 : evV w (mk 3 [mk 11 [x, y]]) = .ok (vI (cntF (whereF w fun i => u.s.getD i false || v.s.getD i false).s)) := by rw [ev1 (ev2 ex ey)]; rfl
    have e2 : evV w (mk 3 [mk 12 [x, y]]) = .ok (vI (cntF (whereF w fun i => u.s.getD i false && v.s.getD i false).s)) := by rw [ev1 (ev2 ex ey)]; rfl
    have e3 : evV w (mk 3 [x]) = .ok (vI (cntF u.s)) := by rw [ev1 ex]; rfl
    have e4 : evV w (mk 3 [y]) = .ok (vI (cntF v.s)) := by rw [ev1 ey]; rfl
    have k1 := c0 fun i => u.s.getD i false || v.s.getD i false
    have k2 := c0 fun i => u.s.getD i false && v.s.getD i false
    have k3 := cnt_nn u.s
    have k4 := cnt_nn v.s
    have l1 := ou.len
    have l2 := ov.len
    rw [if_pos rfl] at l1 l2
    have key : cntF (whereF w fun i => u.s.getD i false || v.s.getD i false).s + cntF (whereF w fun i => u.s.getD i false && v.s.getD i false).s = cntF u.s + cntF v.s := by
      have := cnt_two (fun i => u.s.getD i false) (fun i => v.s.getD i false) (List.range w.nodes.toNat)
      rw [set_map ou, set_map ov] at this
      exact this
    have f1 : evV w (mk 4 [mk 3 [mk 11 [x, y]], mk 3 [mk 12 [x, y]]]) = .ok (vI (cntF u.s + cntF v.s)) := by
      rw [ev2 e1 e2, ← key]
      exact fit_in (by show -9223372036854775808 ≤ (vI _).n + (vI _).n; simp only; omega) (by simp only [v0, v1, List.getD_cons_zero, List.getD_cons_succ]; omega)
    have f2 : evV w (mk 4 [mk 3 [x], mk 3 [y]]) = .ok (vI (cntF u.s + cntF v.s)) := by
      rw [ev2 e3 e4]
      exact fit_in (by simp only [v0, v1, List.getD_cons_zero, List.getD_cons_succ]; omega) (by simp only [v0, v1, List.getD_cons_zero, List.getD_cons_succ]; omega)
    rw [ev2 f1 f2]
    show Except.ok (vB (decide ((vI (cntF u.s + cntF v.s)).n = (vI (cntF u.s + cntF v.s)).n))) = _
    rw [decide_eq_true rfl]
  · rw [if_neg (by decide), if_neg (by decide), if_neg (by decide)]
    have nu := ou.nod rfl
    refine both (p := decide (u.n = v.n)) (by rw [ev2 ex ey]; rfl) ?_
    rw [ev2 ex (ev_one ey)]
    show Except.ok (vB ((whereF w fun i => decide ((i : Int) = v.n)).s.getD u.n.toNat false)) = _
    rw [where_get _ _ (by omega), show ((u.n.toNat : Nat) : Int) = u.n by omega]
  · rw [if_neg (by decide), if_pos rfl]
    refine both (p := v.b || !u.b) ?_ (by rw [ev2 ex ey]; rfl)
    rw [ev2 (ev1 ex) ey]
    show Except.ok (vB (!u.b || (v.b || false))) = _
    rw [Bool.or_false, Bool.or_comm]
theorem size2 (op : Int) (t u : Tm) : (mk op [t, u]).size = t.size + u.size + 1 := by unfold mk; rw [Tm.size_mk, Tm.sizeL_cons, Tm.sizeL_cons, Tm.sizeL_nil]; omega
theorem size1 (op : Int) (t : Tm) : (mk op [t]).size = t.size + 1 := by unfold mk; rw [Tm.size_mk, Tm.sizeL_cons, Tm.sizeL_nil]
theorem law_size {x y : Tm} {s : Int} (hx : x.size ≤ 200) (hy : y.size ≤ 200) : (lawT x y s).size ≤ 2000 := by
  unfold lawT
  split
  · simp only [size1, size2]; omega
  split
  · simp only [size1, size2]; omega
  split
  · simp only [size2]; omega
  · simp only [size1, size2]; omega
theorem law_dep {x y : Tm} {s : Int} (hx : x.dep ≤ 80) (hy : y.dep ≤ 80) : (lawT x y s).dep ≤ 100 := by
  unfold lawT
  split
  · simp only [dep_mk1, dep_mk2]; omega
  split
  · simp only [dep_mk1, dep_mk2]; omega
  split
  · simp only [dep_mk2]; omega
  · simp only [dep_mk1, dep_mk2]; omega
theorem evalF_of {t : Tm} {s : Int} (hw : rightW w = true) (h : sortF t = (s, 0)) : evalF t w = match evV w t with | .ok v => (v, 0) | .error e => (vz, e) := by
  unfold evalF
  rw [h, if_neg (fun h => h rfl), if_neg (by rw [hw]; decide)]
  rfl
theorem law_eval {x y : Tm} (hw : rightW w = true) (hx : (sortF x).2 = 0) (hy : (sortF y).2 = 0) (hs : (sortF x).1 = (sortF y).1) (sx : x.size ≤ 200) (sy : y.size ≤ 200) (dx : x.dep ≤ 80) (dy : y.dep ≤ 80)
    (ex : (evalF x w).2 = 0) (ey : (evalF y w).2 = 0) : 1 ≤ (sortF x).1 ∧ (sortF x).1 ≤ 4 ∧ evalF (lawT x y (sortF x).1) w = (vB true, 0) := by
  obtain ⟨_, _, r1, q1⟩ := sortF_ok hx
  obtain ⟨_, _, r2, q2⟩ := sortF_ok hy
  obtain ⟨g1, n1⟩ := right_self r1
  obtain ⟨g2, _⟩ := right_self r2
  rw [← q1] at g1 n1
  rw [← q2, ← hs] at g2
  have hr := (right_iff x 0).1 r1
  have hb : 1 ≤ (sortF x).1 ∧ (sortF x).1 ≤ 4 := by
    have : ∀ k : Fin 29, (shpAt (k.1 : Int)).sort ≠ 0 → 1 ≤ (shpAt (k.1 : Int)).sort ∧ (shpAt (k.1 : Int)).sort ≤ 4 := by decide
    have h := this ⟨x.op.toNat, by have := hr.op1; have := hr.op2; omega⟩
    have h0 := hr.op1
    simp only [Int.toNat_of_nonneg (show 0 ≤ x.op by omega)] at h
    rw [← q1] at h
    exact h n1
  refine ⟨hb.1, hb.2, ?_⟩
  rw [evalF_of hw (show sortF x = ((sortF x).1, 0) from Prod.ext rfl hx)] at ex
  rw [evalF_of hw (show sortF y = ((sortF y).1, 0) from Prod.ext rfl hy)] at ey
  cases e1 : evV w x with
  | error e => rw [e1] at ex; have := evV_err x e e1; have h : e = 0 := ex; omega
  | ok u =>
    cases e2 : evV w y with
    | error e => rw [e2] at ey; have := evV_err y e e2; have h : e = 0 := ey; omega
    | ok v =>
      rw [evalF_of hw (sortF_mk (law_size sx sy) (law_dep dx dy) (law_right hb.1 hb.2 g1 g2) (by decide)), law_val hw hb.1 hb.2 g1 g2 e1 e2]
end
end Go.V
