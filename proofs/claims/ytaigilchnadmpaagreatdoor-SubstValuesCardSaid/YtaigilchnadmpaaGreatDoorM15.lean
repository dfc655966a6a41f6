/- Sets and bools obey their laws: the law alone. -/
import Derived.Test.YtaigilchnadmpaaGreatDoorM6
import Derived.Test.YtaigilchnadmpaaGreatDoorE3
import Derived.Test.YtaigilchnadmpaaGreatDoorN4
set_option linter.unusedVariables false
namespace Go.V
open Go
section
variable {w : Wd}
/-- of one -/
theorem rt1 {op m s : Int} {x : Tm} (h1 : 1 ≤ op) (h2 : op ≤ 28) (hs : (shpAt op).sort = m) (ha : (shpAt op).a = [s]) (hn : (shpAt op).name = false) (hx : rightT x s = true) : rightT (mk op [x]) m = true := by
  rw [right_iff]
  refine ⟨h1, h2, .inr hs, fun h => ?_, fun _ => rfl, fun _ => rfl, fun _ => ?_, fun i hi => ?_⟩
  · rw [show (mk op [x]).op = op from rfl, hn] at h; cases h
  · show [x].length = (shpAt op).a.length; rw [ha]; rfl
  · obtain rfl : i = 0 := by change i < 1 at hi; omega
    show rightT x ((shpAt op).a.getD (bif (shpAt op).many then 0 else 0) 0) = true
    rw [ha]
    cases (shpAt op).many <;> exact hx
/-- of two -/
theorem rt2 {op m s s' : Int} {x y : Tm} (h1 : 1 ≤ op) (h2 : op ≤ 28) (hs : (shpAt op).sort = m) (ha : (shpAt op).a = [s, s']) (hm : (shpAt op).many = false) (hn : (shpAt op).name = false) (hx : rightT x s = true) (hy : rightT y s' = true) : rightT (mk op [x, y]) m = true := by
  rw [right_iff]
  refine ⟨h1, h2, .inr hs, fun h => ?_, fun _ => rfl, fun _ => rfl, fun _ => ?_, fun i hi => ?_⟩
  · rw [show (mk op [x, y]).op = op from rfl, hn] at h; cases h
  · show [x, y].length = (shpAt op).a.length; rw [ha]; rfl
  · show rightT [x, y][i] ((shpAt op).a.getD (bif (shpAt op).many then 0 else i) 0) = true
    rw [ha, hm]
    change i < 2 at hi
    match i, hi with
    | 0, _ => exact hx
    | 1, _ => exact hy
/-- of two of a kind, though it takes many -/
theorem rtM {op m s : Int} {x y : Tm} (h1 : 1 ≤ op) (h2 : op ≤ 28) (hs : (shpAt op).sort = m) (ha : (shpAt op).a = [s]) (hm : (shpAt op).many = true) (hn : (shpAt op).name = false) (hx : rightT x s = true) (hy : rightT y s = true) : rightT (mk op [x, y]) m = true := by
  rw [right_iff]
  refine ⟨h1, h2, .inr hs, fun h => ?_, fun _ => rfl, fun _ => rfl, fun h => ?_, fun i hi => ?_⟩
  · rw [show (mk op [x, y]).op = op from rfl, hn] at h; cases h
  · rw [show (mk op [x, y]).op = op from rfl, hm] at h; cases h
  · show rightT [x, y][i] ((shpAt op).a.getD (bif (shpAt op).many then 0 else i) 0) = true
    rw [ha, hm]
    change i < 2 at hi
    match i, hi with
    | 0, _ => exact hx
    | 1, _ => exact hy
theorem cnt_nn : ∀ l : List Bool, 0 ≤ cntF l ∧ cntF l ≤ l.length
  | [] => ⟨Int.le_refl _, Int.le_refl _⟩
  | x :: r => by
    have := cnt_nn r
    rw [cntF, List.length_cons]
    split <;> omega
theorem cnt_two (f g : Nat → Bool) : ∀ l : List Nat, cntF (l.map fun i => f i || g i) + cntF (l.map fun i => f i && g i) = cntF (l.map f) + cntF (l.map g)
  | [] => rfl
  | x :: r => by
    have := cnt_two f g r
    simp only [List.map_cons, cntF]
    cases f x <;> cases g x <;> simp <;> omega
theorem set_map {v : Vl} (h : OkV w 2 v) : (List.range w.nodes.toNat).map (fun i => v.s.getD i false) = v.s := by
  apply List.ext_getElem
  · rw [List.length_map, List.length_range, h.len, if_pos rfl]
  · intro i h1 h2
    rw [List.getElem_map, List.getElem_range, List.getD_eq_getElem?_getD, List.getElem?_eq_getElem h2, Option.getD_some]
theorem ev1 {op : Int} {x : Tm} {v : Vl} (h : evV w x = .ok v) : evV w (mk op [x]) = opV w op ⟨#[]⟩ 0 [v] := by
  rw [ev_mk, evL1, h]
theorem ev2 {op : Int} {x y : Tm} {v u : Vl} (h : evV w x = .ok v) (h' : evV w y = .ok u) : evV w (mk op [x, y]) = opV w op ⟨#[]⟩ 0 [v, u] := by
  rw [ev_mk, evL2, h, h']
theorem fit_in {n : Int} (h1 : -9223372036854775808 ≤ n) (h2 : n ≤ 9223372036854775807) : fit n = .ok (vI n) := by
  unfold fit; rw [if_pos]; unfold inI; rw [decide_eq_true h1, decide_eq_true h2]; rfl
def lawT (x y : Tm) (s : Int) : Tm :=
  if s = 2 then mk 24 [mk 4 [mk 3 [mk 11 [x, y]], mk 3 [mk 12 [x, y]]], mk 4 [mk 3 [x], mk 3 [y]]]
  else if s = 4 then mk 19 [mk 21 [mk 20 [mk 18 [x], y], mk 21 [x, y]], mk 21 [mk 21 [x, y], mk 20 [mk 18 [x], y]]]
  else if s = 1 then mk 20 [mk 22 [x, y], mk 23 [y, x]]
  else mk 19 [mk 21 [mk 28 [x, y], mk 25 [x, mk 10 [y]]], mk 21 [mk 25 [x, mk 10 [y]], mk 28 [x, y]]]
theorem law_right {x y : Tm} {s : Int} (h1 : 1 ≤ s) (h2 : s ≤ 4) (hx : rightT x s = true) (hy : rightT y s = true) : rightT (lawT x y s) 4 = true := by
  have hs : s = 1 ∨ s = 2 ∨ s = 3 ∨ s = 4 := by omega
  unfold lawT
  rcases hs with rfl | rfl | rfl | rfl
  · exact rtM (by decide) (by decide) rfl rfl rfl rfl (rt2 (by decide) (by decide) rfl rfl rfl rfl hx hy) (rt2 (by decide) (by decide) rfl rfl rfl rfl hy hx)
  · have c : ∀ {z}, rightT z 2 = true → rightT (mk 3 [z]) 1 = true := fun h => rt1 (by decide) (by decide) rfl rfl rfl h
    have a : ∀ {z z'}, rightT z 1 = true → rightT z' 1 = true → rightT (mk 4 [z, z']) 1 = true := fun h h' => rt2 (by decide) (by decide) rfl rfl rfl rfl h h'
    exact rt2 (by decide) (by decide) rfl rfl rfl rfl (a (c (rt2 (by decide) (by decide) rfl rfl rfl rfl hx hy)) (c (rt2 (by decide) (by decide) rfl rfl rfl rfl hx hy))) (a (c hx) (c hy))
  · have i : ∀ {z z'}, rightT z 4 = true → rightT z' 4 = true → rightT (mk 21 [z, z']) 4 = true := fun h h' => rt2 (by decide) (by decide) rfl rfl rfl rfl h h'
    have a : rightT (mk 28 [x, y]) 4 = true := rt2 (by decide) (by decide) rfl rfl rfl rfl hx hy
    have b : rightT (mk 25 [x, mk 10 [y]]) 4 = true := rt2 (by decide) (by decide) rfl rfl rfl rfl hx (rt1 (by decide) (by decide) rfl rfl rfl hy)
    exact rtM (by decide) (by decide) rfl rfl rfl rfl (i a b) (i b a)
  · have i : ∀ {z z'}, rightT z 4 = true → rightT z' 4 = true → rightT (mk 21 [z, z']) 4 = true := fun h h' => rt2 (by decide) (by decide) rfl rfl rfl rfl h h'
    have a : rightT (mk 20 [mk 18 [x], y]) 4 = true := rtM (by decide) (by decide) rfl rfl rfl rfl (rt1 (by decide) (by decide) rfl rfl rfl hx) hy
    have b : rightT (mk 21 [x, y]) 4 = true := i hx hy
    exact rtM (by decide) (by decide) rfl rfl rfl rfl (i a b) (i b a)
theorem law_val {x y : Tm} {s : Int} {u v : Vl} (hw : rightW w = true) (h1 : 1 ≤ s) (h2 : s ≤ 4) (hx : rightT x s = true) (hy : rightT y s = true) (ex : evV w x = .ok u) (ey : evV w y = .ok v) : evV w (lawT x y s) = .ok (vB true) := by
  have ou := evV_ok hw hx (by omega) ex
  have ov := evV_ok hw hy (by omega) ey
  have hs : s = 1 ∨ s = 2 ∨ s = 3 ∨ s = 4 := by omega
  have both : ∀ {a b : Tm} {p : Bool}, evV w a = .ok (vB p) → evV w b = .ok (vB p) → evV w (mk 19 [mk 21 [a, b], mk 21 [b, a]]) = .ok (vB true) := by
    intro a b p ha hb
    rw [ev2 (ev2 ha hb) (ev2 hb ha)]
    cases p <;> rfl
  unfold lawT
  rcases hs with rfl | rfl | rfl | rfl
  · rw [if_neg (by decide), if_neg (by decide), if_pos rfl, ev2 (ev2 ex ey) (ev2 ey ex)]
    show Except.ok (vB (decide (u.n ≤ v.n) || (decide (v.n < u.n) || false))) = _
    rw [Bool.or_false, ← Bool.decide_or, decide_eq_true (by omega)]
  · rw [if_pos rfl]
    obtain ⟨w1, w2, _, _⟩ := rightW_spec hw
    have n0 : (w.nodes.toNat : Int) = w.nodes := by omega
    have c0 : ∀ f : Nat → Bool, 0 ≤ cntF (whereF w f).s ∧ cntF (whereF w f).s ≤ 64 := by
      intro f
      have := cnt_nn (whereF w f).s
      have hl : (whereF w f).s.length = w.nodes.toNat := by simp [whereF]
      omega
    have e1 : evV w (mk 3 [mk 11 [x, y]]) = .ok (vI (cntF (whereF w fun i => u.s.getD i false || v.s.getD i false).s)) := by rw [ev1 (ev2 ex ey)]; rfl
    have e2 : evV w (mk 3 [mk 12 [x, y]]) = .ok (vI (cntF (whereF w fun i => u.s.getD i false && v.s.getD i false).s)) := by rw [ev1 (ev2 ex ey)]; rfl
    have e3 : evV w (mk 3 [x]) = .ok (vI (cntF u.s)) := by rw [ev1 ex]; rfl
    have e4 : evV w (mk 3 [y]) = .ok (vI (cntF v.s)) := by rw [ev1 ey]; rfl
    have k1 := c0 fun i => u.s.getD i false || v.s.getD i false
    have k2 := c0 fun i => u.s.getD i false && v.s.getD i false
    have k3 := cnt_nn u.s
    have k4 := cnt_nn v.s
    have l1 := ou.len
    have l2 := ov.len
    rw [if_pos rfl] at l1 l2
    have key : cntF (whereF w fun i => u.s.getD i false || v.s.getD i false).s + cntF (whereF w fun i => u.s.getD i false && v.s.getD i false).s = cntF u.s + cntF v.s := by
      have := cnt_two (fun i => u.s.getD i false) (fun i => v.s.getD i false) (List.range w.nodes.toNat)
      rw [set_map ou, set_map ov] at this
      exact this
    have f1 : evV w (mk 4 [mk 3 [mk 11 [x, y]], mk 3 [mk 12 [x, y]]]) = .ok (vI (cntF u.s + cntF v.s)) := by
      rw [ev2 e1 e2, ← key]
      exact fit_in (by show -9223372036854775808 ≤ (vI _).n + (vI _).n; simp only [vI]; omega) (by simp only [v0, v1, List.getD_cons_zero, List.getD_cons_succ]; omega)
    have f2 : evV w (mk 4 [mk 3 [x], mk 3 [y]]) = .ok (vI (cntF u.s + cntF v.s)) := by
      rw [ev2 e3 e4]
      exact fit_in (by simp only [v0, v1, List.getD_cons_zero, List.getD_cons_succ]; omega) (by simp only [v0, v1, List.getD_cons_zero, List.getD_cons_succ]; omega)
    rw [ev2 f1 f2]
    show Except.ok (vB (decide ((vI (cntF u.s + cntF v.s)).n = (vI (cntF u.s + cntF v.s)).n))) = _
    rw [decide_eq_true rfl]
  · rw [if_neg (by decide), if_neg (by decide), if_neg (by decide)]
    have nu := ou.nod rfl
    refine both (p := decide (u.n = v.n)) (by rw [ev2 ex ey]; rfl) ?_
    rw [ev2 ex (ev_one ey)]
    show Except.ok (vB ((whereF w fun i => decide ((i : Int) = v.n)).s.getD u.n.toNat false)) = _
    rw [where_get _ _ (by omega), show ((u.n.toNat : Nat) : Int) = u.n by omega]
  · rw [if_neg (by decide), if_pos rfl]
    refine both (p := v.b || !u.b) ?_ (by rw [ev2 ex ey]; rfl)
    rw [ev2 (ev1 ex) ey]
    show Except.ok (vB (!u.b || (v.b || false))) = _
    rw [Bool.or_false, Bool.or_comm]
theorem size2 (op : Int) (t u : Tm) : (mk op [t, u]).size = t.size + u.size + 1 := by unfold mk; rw [Tm.size_mk, Tm.sizeL_cons, Tm.sizeL_cons, Tm.sizeL_nil]; omega
theorem size1 (op : Int) (t : Tm) : (mk op [t]).size = t.size + 1 := by unfold mk; rw [Tm.size_mk, Tm.sizeL_cons, Tm.sizeL_nil]
theorem law_size {x y : Tm} {s : Int} (hx : x.size ≤ 200) (hy : y.size ≤ 200) : (lawT x y s).size ≤ 2000 := by
  unfold lawT
  split
  · simp only [size1, size2]; omega
  split
  · simp only [size1, size2]; omega
  split
  · simp only [size1, size2]; omega
  · simp only [size1, size2]; omega
theorem law_dep {x y : Tm} {s : Int} (hx : x.dep ≤ 80) (hy : y.dep ≤ 80) : (lawT x y s).dep ≤ 100 := by
  unfold lawT
  split
  · simp only [dep_mk1, dep_mk2]; omega
  split
  · simp only [dep_mk1, dep_mk2]; omega
  split
  · simp only [dep_mk1, dep_mk2]; omega
  · simp only [dep_mk1, dep_mk2]; omega
theorem evalF_of {t : Tm} {s : Int} (hw : rightW w = true) (h : sortF t = (s, 0)) : evalF t w = match evV w t with | .ok v => (v, 0) | .error e => (vz, e) := by
  unfold evalF
  rw [h, if_neg (fun h => h rfl), if_neg (by rw [hw]; decide)]
  rfl
theorem law_eval {x y : Tm} (hw : rightW w = true) (hx : (sortF x).2 = 0) (hy : (sortF y).2 = 0) (hs : (sortF x).1 = (sortF y).1) (sx : x.size ≤ 200) (sy : y.size ≤ 200) (dx : x.dep ≤ 80) (dy : y.dep ≤ 80)
    (ex : (evalF x w).2 = 0) (ey : (evalF y w).2 = 0) : 1 ≤ (sortF x).1 ∧ (sortF x).1 ≤ 4 ∧ evalF (lawT x y (sortF x).1) w = (vB true, 0) := by
  obtain ⟨_, _, r1, q1⟩ := sortF_ok hx
  obtain ⟨_, _, r2, q2⟩ := sortF_ok hy
  obtain ⟨g1, n1⟩ := right_self r1
  obtain ⟨g2, _⟩ := right_self r2
  rw [← q1] at g1 n1
  rw [← q2, ← hs] at g2
  have hr := (right_iff x 0).1 r1
  have hb : 1 ≤ (sortF x).1 ∧ (sortF x).1 ≤ 4 := by
    have : ∀ k : Fin 29, (shpAt (k.1 : Int)).sort ≠ 0 → 1 ≤ (shpAt (k.1 : Int)).sort ∧ (shpAt (k.1 : Int)).sort ≤ 4 := by decide
    have h := this ⟨x.op.toNat, by have := hr.op1; have := hr.op2; omega⟩
    have h0 := hr.op1
    simp only [Int.toNat_of_nonneg (show 0 ≤ x.op by omega)] at h
    rw [← q1] at h
    exact h n1
  refine ⟨hb.1, hb.2, ?_⟩
  rw [evalF_of hw (show sortF x = ((sortF x).1, 0) from Prod.ext rfl hx)] at ex
  rw [evalF_of hw (show sortF y = ((sortF y).1, 0) from Prod.ext rfl hy)] at ey
  cases e1 : evV w x with
  | error e => rw [e1] at ex; have := evV_err x e e1; have h : e = 0 := ex; omega
  | ok u =>
    cases e2 : evV w y with
    | error e => rw [e2] at ey; have := evV_err y e e2; have h : e = 0 := ey; omega
    | ok v =>
      rw [evalF_of hw (sortF_mk (law_size sx sy) (law_dep dx dy) (law_right hb.1 hb.2 g1 g2) (by decide)), law_val hw hb.1 hb.2 g1 g2 e1 e2]
end
end Go.V
/- A value has its sort; names that do not stand in a term do not matter: the law alone. -/
set_option linter.unusedVariables false
namespace Go.V
open Go
section
variable {w u : Wd}
/-- of no name, nothing asks the world for one -/
theorem opV_other {op : Int} {nm : ByteArray} {n : Int} {vs : List Vl} (hn : w.nodes = u.nodes) (h1 : 1 ≤ op) (h2 : op ≤ 28) (h : ¬ (op = 2 ∨ op = 7 ∨ op = 14 ∨ op = 15)) : opV w op nm n vs = opV u op nm n vs := by
  have hop : ∃ i : Fin 29, op = (i.1 : Int) := ⟨⟨op.toNat, by omega⟩, by simp only; omega⟩
  have hw : ∀ f, whereF w f = whereF u f := fun f => by unfold whereF; rw [hn]
  obtain ⟨i, rfl⟩ := hop
  unfold opV
  rw [Int.toNat_natCast]
  revert h1 h
  match i with
  | ⟨0, _⟩ => intro h1; simp at h1
  | ⟨1, _⟩ => intro _ _; rfl
  | ⟨2, _⟩ => intro _ h; exact absurd (.inl rfl) h
  | ⟨3, _⟩ => intro _ _; rfl
  | ⟨4, _⟩ => intro _ _; rfl
  | ⟨5, _⟩ => intro _ _; rfl
  | ⟨6, _⟩ => intro _ _; rfl
  | ⟨7, _⟩ => intro _ h; exact absurd (.inr (.inl rfl)) h
  | ⟨8, _⟩ => intro _ _; exact congrArg Except.ok (hw _)
  | ⟨9, _⟩ => intro _ _; exact congrArg Except.ok (hw _)
  | ⟨10, _⟩ => intro _ _; exact congrArg Except.ok (hw _)
  | ⟨11, _⟩ => intro _ _; exact congrArg Except.ok (hw _)
  | ⟨12, _⟩ => intro _ _; exact congrArg Except.ok (hw _)
  | ⟨13, _⟩ => intro _ _; exact congrArg Except.ok (hw _)
  | ⟨14, _⟩ => intro _ h; exact absurd (.inr (.inr (.inl rfl))) h
  | ⟨15, _⟩ => intro _ h; exact absurd (.inr (.inr (.inr rfl))) h
  | ⟨16, _⟩ => intro _ _; rfl
  | ⟨17, _⟩ => intro _ _; rfl
  | ⟨18, _⟩ => intro _ _; rfl
  | ⟨19, _⟩ => intro _ _; rfl
  | ⟨20, _⟩ => intro _ _; rfl
  | ⟨21, _⟩ => intro _ _; rfl
  | ⟨22, _⟩ => intro _ _; rfl
  | ⟨23, _⟩ => intro _ _; rfl
  | ⟨24, _⟩ => intro _ _; rfl
  | ⟨25, _⟩ => intro _ _; rfl
  | ⟨26, _⟩ => intro _ _; rfl
  | ⟨27, _⟩ => intro _ _; rfl
  | ⟨28, _⟩ => intro _ _; rfl
theorem opV_name {op : Int} {nm : ByteArray} {n : Int} {vs : List Vl} (h : op = 2 ∨ op = 7 ∨ op = 14 ∨ op = 15) : opV w op nm n vs = nameV w nm (shpAt op).sort := by
  rcases h with rfl | rfl | rfl | rfl <;> rfl
theorem evL_congr : ∀ (l : List Tm), (∀ x ∈ l, evV u x = evV w x) → evL u l = evL w l
  | [], _ => by rw [evL0, evL0]
  | x :: r, h => by rw [evL_cons, evL_cons, h x (by simp), evL_congr r fun y hy => h y (by simp [hy])]
/-- a term's value hangs on its names alone -/
theorem ev_apart (hn : w.nodes = u.nodes) (t : Tm) : ∀ s, rightT t s = true → (∀ x ∈ collT t, getF u.names (str x.1) (shpAt x.2).sort = getF w.names (str x.1) (shpAt x.2).sort) → evV u t = evV w t := by
  induction t using Tm.ind' with
  | h t ih =>
    intro s h hc
    have r := (right_iff t s).1 h
    by_cases ho : t.op = 2 ∨ t.op = 7 ∨ t.op = 14 ∨ t.op = 15
    · obtain ⟨ha, hcol⟩ := right_named h ho
      have hg := hc _ (by rw [hcol]; exact List.mem_singleton.2 rfl)
      simp only at hg
      rw [← str_of] at hg
      cases t with | mk op nm n a =>
      simp only [Tm.op, Tm.a, Tm.nm] at ho ha hg
      subst ha
      rw [evV_eq, evV_eq, evL0, evL0]
      show opV u op nm n [] = opV w op nm n []
      rw [opV_name ho, opV_name ho]
      unfold nameV
      rw [hg]
    · rw [right_bare' h ho] at hc
      have hl := evL_congr (u := u) (w := w) t.a fun x hx => by
        obtain ⟨i, hi, rfl⟩ := List.mem_iff_getElem.1 hx
        exact ih _ hx _ (r.kids i hi) fun z hz => hc z (collL_mem.2 ⟨_, hx, hz⟩)
      have h1 := r.op1
      have h2 := r.op2
      cases t with | mk op nm n a =>
      simp only [Tm.op, Tm.a] at ho hl h1 h2
      rw [evV_eq, evV_eq, hl]
      cases evL w a with
      | error e => rfl
      | ok vs => exact (opV_other hn h1 h2 ho).symm
/-- which names are there, where it has a value, or no name is missing -/
theorem evL_there : ∀ (l : List Tm), (∀ x ∈ l, (∀ v, evV w x = .ok v → ∀ z ∈ collT x, (getF w.names (str z.1) (shpAt z.2).sort).isSome = true) ∧ (evV w x = .error 4 → ∃ z ∈ collT x, (getF w.names (str z.1) (shpAt z.2).sort).isSome = false)) →
    (∀ vs, evL w l = .ok vs → ∀ z ∈ collL l, (getF w.names (str z.1) (shpAt z.2).sort).isSome = true) ∧ (evL w l = .error 4 → ∃ z ∈ collL l, (getF w.names (str z.1) (shpAt z.2).sort).isSome = false)
  | [], _ => ⟨fun _ _ z hz => (by rw [collL] at hz; cases hz), fun h => (by rw [evL0] at h; cases h)⟩
  | x :: r, h => by
    obtain ⟨a1, a2⟩ := h x (by simp)
    obtain ⟨b1, b2⟩ := evL_there r fun y hy => h y (by simp [hy])
    rw [evL_cons, collL]
    cases hx : evV w x with
    | error e =>
      refine ⟨fun vs hh => (by cases hh), fun hh => ?_⟩
      injection hh with hh
      subst hh
      obtain ⟨z, hz, g⟩ := a2 hx
      exact ⟨z, List.mem_append_left _ hz, g⟩
    | ok v =>
      cases hr : evL w r with
      | error e =>
        refine ⟨fun vs hh => (by cases hh), fun hh => ?_⟩
        injection hh with hh
        subst hh
        obtain ⟨z, hz, g⟩ := b2 hr
        exact ⟨z, List.mem_append_right _ hz, g⟩
      | ok vs =>
        refine ⟨fun _ _ z hz => ?_, fun hh => (by cases hh)⟩
        rcases List.mem_append.1 hz with hz | hz
        · exact a1 v hx z hz
        · exact b1 vs hr z hz
theorem ev_there (t : Tm) : ∀ s, rightT t s = true → (∀ v, evV w t = .ok v → ∀ z ∈ collT t, (getF w.names (str z.1) (shpAt z.2).sort).isSome = true) ∧ (evV w t = .error 4 → ∃ z ∈ collT t, (getF w.names (str z.1) (shpAt z.2).sort).isSome = false) := by
  induction t using Tm.ind' with
  | h t ih =>
    intro s h
    have r := (right_iff t s).1 h
    by_cases ho : t.op = 2 ∨ t.op = 7 ∨ t.op = 14 ∨ t.op = 15
    · obtain ⟨ha, hcol⟩ := right_named h ho
      rw [hcol]
      cases t with | mk op nm n a =>
      simp only [Tm.op, Tm.a, Tm.nm] at ho ha ⊢
      subst ha
      have hs : str nm.data.toList = nm := (str_of nm).symm
      have e : evV w (.mk op nm n []) = nameV w nm (shpAt op).sort := by rw [evV_eq, evL0]; exact opV_name ho
      rw [e]
      unfold nameV
      cases hg : getF w.names nm (shpAt op).sort with
      | none => exact ⟨fun v hh => (by cases hh), fun _ => ⟨_, List.mem_singleton.2 rfl, by simp only; rw [hs, hg]; rfl⟩⟩
      | some v => exact ⟨fun _ _ z hz => (by rw [List.mem_singleton.1 hz]; simp only; rw [hs, hg]; rfl), fun hh => (by cases hh)⟩
    · rw [right_bare' h ho]
      have hl := evL_there (w := w) t.a fun x hx => by
        obtain ⟨i, hi, rfl⟩ := List.mem_iff_getElem.1 hx
        exact ih _ hx _ (r.kids i hi)
      have h1 := r.op1
      have h2 := r.op2
      cases t with | mk op nm n a =>
      simp only [Tm.op, Tm.a] at ho hl h1 h2 ⊢
      rw [evV_eq]
      cases he : evL w a with
      | error e =>
        refine ⟨fun v hh => (by cases hh), fun hh => ?_⟩
        injection hh with hh
        subst hh
        exact hl.2 he
      | ok vs =>
        refine ⟨fun v _ => hl.1 vs he, fun hh => ?_⟩
        exfalso
        have hh : opV w op nm n vs = .error 4 := hh
        have hf : ∀ v, fit v ≠ .error 4 := fun v => by
          unfold fit
          split
          · intro h; cases h
          · intro h; injection h with h; cases h
        unfold opV at hh
        have hop : ∃ i : Fin 29, op = (i.1 : Int) := ⟨⟨op.toNat, by omega⟩, by simp only; omega⟩
        obtain ⟨i, rfl⟩ := hop
        rw [Int.toNat_natCast] at hh
        split at hh
        all_goals first | exact hf _ hh | (cases hh; done) | (rename_i q; exact ho (by omega))
end
end Go.V
/- With: a world in which a name has a value. -/
set_option maxRecDepth 100000
set_option linter.unusedVariables false
namespace Go.V
/-- the same, of own blocks: they stay -/
theorem AFn.borrow {P : Program} {g : FuncId} {args args' : List D} {L : List Bx} {v : Value} (h : AFn P g args' [] (.ret (.val v))) (hg : Gl args L args' []) : AFn P g args L (.ret (.val v)) := by
  intro F w vs a hr
  obtain ⟨F1, e1, a1, r1⟩ := hg F w vs a hr
  refine (h F1 w vs a1 r1).mono ?_
  rintro e w' ⟨ae, F2, L2, h1, h2, h3, rfl, rfl⟩
  have no : ∀ k : Nat, ∀ x ∈ ([] : List Bx), x.b ≠ k := fun k x hx => by cases hx
  have keep : Keeps F w F w' := ⟨h1.size, fun _ _ h => h, fun k hk _ => h1.block k hk (no k)⟩
  refine ⟨.ret (.val v), F, L, ⟨h1.os, h1.tape, h1.output, h1.size, fun k hk _ => h1.block k hk (no k), fun _ h => h, fun _ _ h => .inl h, fun x hx _ => ⟨x, hx, rfl⟩, h1.drawn⟩,
    ⟨fun x hx => (a.own x hx).keep keep (h1.block x.b (a.own x hx).lt (no _)), a.nodup, a.sep, fun b hb => Nat.lt_of_lt_of_le (a.lt b hb) h1.size⟩, ?_, rfl, rfl⟩
  obtain ⟨u, rfl, h4⟩ := h3
  exact ⟨u, rfl, by rw [Rep] at h4 ⊢; exact h4⟩
/-- an own row is given up -/
theorem gl_fzB' {α : Type} {f : α → List D} {sz b e c cap n : Nat} (hsz : ∀ x, (f x).length = sz) {ds ds' : List D} {L L' : List Bx} (l : List α) (i : Nat) (hi : L[i]? = some (Bx.mk b (l.map f).flatten (.row e sz cap))) (hn : n = l.length)
    (hd : WkL (.sl b 0 n c) (.row sz (l.map f)) ds ds') (hL : WkB (.sl b 0 n c) (.row sz (l.map f)) (L.eraseIdx i) L') : Gl ds L ds' L' := by
  subst hn
  refine Gl.fz (n := l.length) (c := c) i hi (flat_len hsz l) ?_ ?_
  · rw [chunk_flat hsz]; exact hd
  · rw [chunk_flat hsz]; exact hL
theorem set_val {nm : ByteArray} {v : Vl} : ∀ (l : List Nv) (j : Nat) (hj : j < l.length), l[j].nm = nm → (l.map Nv.cs).flatten.take (0 + j * 5 + 1) ++ cl v.d ++ (l.map Nv.cs).flatten.drop (0 + j * 5 + 1 + 4) = ((l.set j ⟨nm, v⟩).map Nv.cs).flatten
  | [], j, hj, _ => absurd hj (Nat.not_lt_zero _)
  | y :: r, 0, _, h => by
    have h : y.nm = nm := h
    subst h
    rfl
  | y :: r, j + 1, hj, h => by
    have ih := set_val r j (by simpa using hj) h (v := v)
    rw [List.map_cons, List.flatten_cons, List.set_cons_succ, List.map_cons, List.flatten_cons, ← ih]
    have e1 : (y.cs ++ (r.map Nv.cs).flatten).take (0 + (j + 1) * 5 + 1) = y.cs ++ (r.map Nv.cs).flatten.take (0 + j * 5 + 1) := by
      rw [List.take_append, Nv.cs_len, List.take_of_length_le (by rw [Nv.cs_len]; omega)]
      congr 2; omega
    have e2 : (y.cs ++ (r.map Nv.cs).flatten).drop (0 + (j + 1) * 5 + 1 + 4) = (r.map Nv.cs).flatten.drop (0 + j * 5 + 1 + 4) := by
      rw [List.drop_append, Nv.cs_len, List.drop_of_length_le (by rw [Nv.cs_len]; omega), List.nil_append]
      congr 1; omega
    rw [e1, e2, List.append_assoc, List.append_assoc, List.append_assoc]
def putL (nm : ByteArray) (v : Vl) (l : List Nv) : List Nv := if 0 ≤ findF nm v.sort l 0 then l.set (findF nm v.sort l 0).toNat ⟨nm, v⟩ else l ++ [⟨nm, v⟩]
def withF (w : Wd) (nm : ByteArray) (v : Vl) : Wd := ⟨w.nodes, putL nm v w.names⟩
end Go.V
namespace Go.Proofs.YtaigilchnadmpaaGreatDoor
open Go Go.V
theorem ge_world {n : Int} {l : List Nv} {b c e cap k : Nat} {L : List Bx} (hi : L[0]? = some ⟨b, (l.map Nv.cs).flatten, .row e 5 cap⟩) (hk : k = l.length) : Ge (.ret (.agg [.i n, .sl b 0 k c])) L (.ret (.agg [.i n, .row 5 (l.map Nv.cs)])) [] := by
  cases L with
  | nil => cases hi
  | cons x r =>
    injection hi with hi
    subst hi
    exact ⟨trivial, Gl.trans (Gl.drop (L' := [_]) (.cons_cons _ (List.nil_sublist _))) (gl_fzB' Nv.cs_len l 0 rfl hk (.cons (.agg (.cons (.refl _) (.cons .hit .nil))) .nil) .nil)⟩
theorem find_own {n : Int} {l : List Nv} {nm : ByteArray} {st : Int} {b c e cap : Nat} : AFn pr 99 [.agg [.i n, .sl b 0 l.length c], .s nm, .i st] [⟨b, (l.map Nv.cs).flatten, .row e 5 cap⟩] (.ret (.i (findF nm st l 0))) :=
  AFn.borrow (c99 ⟨n, l⟩ nm st) (gl_fzB' Nv.cs_len l 0 rfl rfl (.cons (.agg (.cons (.refl _) (.cons .hit .nil))) (WkL.refl _ _ _)) (WkB.refl _ _ _))
theorem c45 (w : Wd) (nm : ByteArray) (v : Vl) (hw : smallW w) (hn : w.names.length ≤ 64) (hv : v.s.length ≤ 140737488355328) : AFn pr 45 [w.d, .s nm, v.d] [] (.ret (withF w nm v).d) := by
  refine AFn.ofGe (s45 ?_)
  unfold A45
  refine a_bxv fun z1 => ?_
  refine a_bxv fun z2 => ?_
  refine a_bx fun z3 => ?_
  (refine a_fld ?_; (apply a_ld1 2; exact rfl; exact rfl); refine a_lenM ?_; refine a_add (by first | omega | assumption | decide) (by first | omega | assumption | decide) ?_)
  refine a_mkS 0 (w.names.length + 1) rfl rfl (Nat.zero_le _) (by omega) (by omega) fun lb0 => ?_
  (refine a_fld ?_; (apply a_ld1 3; exact rfl; exact rfl); refine a_lenM ?_)
  refine a_lp (σ := Nat × Nat × Nat) (fun x => [.sl x.2.1 0 x.1 x.2.2, .i x.1]) (fun x => [⟨x.2.1, ((w.names.take x.1).map Nv.cs).flatten, .row 74 5 x.2.2⟩, ⟨z3, [.i 0, .nil], .box⟩, ⟨z2, v.cs, .box⟩, ⟨z1, w.cs, .box⟩]) (fun x => x.1 ≤ w.names.length) (fun x => w.names.length - x.1) (0, lb0, w.names.length + 1) (Gl.refl _ _) (Nat.zero_le _) ?_
  rintro ⟨i, lb, c⟩ K hi hK
  dsimp only [aix0, aix1, aix2, aix3, aix4, aix5, aix6, aix7, aix8]
  (refine a_lss ?_)
  refine a_cnd (fun c1 => ?_) (fun c1 => ?_)
  · have hi1 : i < w.names.length := by omega
    have hxs := hw _ (List.getElem_mem hi1)
    have hli : (w.names.take i).length = i := by rw [List.length_take]; simp only at hi; omega
    refine a_idxM i hi1 ?_
    generalize hx : w.names[i] = x at *
    obtain ⟨xn, xv⟩ := x
    have ho := c98 xv hxs
    have e : ((w.names.take (i + 1)).map Nv.cs).flatten = ((w.names.take i).map Nv.cs).flatten ++ Nv.cs ⟨xn, xv⟩ := by
      rw [List.take_succ_eq_append_getElem hi1, hx, List.map_append, List.flatten_append]
      simp
    ((apply a_ldAp; exact rfl); refine a_bx fun z4 => ?_; refine a_stA 0 rfl rfl rfl rfl ?_; refine a_fld ?_; (apply a_ld1 0; exact rfl; exact rfl); refine a_fld ?_; (apply a_ldN 0 _; exact rfl; exact rfl; exact rfl); refine a_callS0 ho ?_; refine a_bldNv rfl rfl ?_; refine a_rowN1 rfl ?_)
    refine a_app 1 ((w.names.take i).map Nv.cs).flatten 1 (Nv.cs ⟨xn, xv⟩) rfl ((flat_len Nv.cs_len _).trans (by rw [hli])) ⟨rfl, rfl, rfl⟩ rfl (by simp only at hi; omega) fun b' c' => ?_
    (refine a_add (by first | omega | assumption | decide) (by first | omega | assumption | decide) ?_)
    refine hK (i + 1, b', c') _ _ (by simp only; omega) (by simp only; omega) ?_
    rw [e]
    exact Gl.drop (.cons _ (List.Sublist.refl _))
  · obtain rfl : i = w.names.length := by simp only at hi; omega
    rw [List.take_length]
    clear hK
    (refine a_fld ?_; (apply a_st 3 _; exact rfl; exact rfl; exact rfl; exact rfl; (try dsimp only [afill, aparts, cl, chunk, List.take, List.drop, List.nil_append, List.cons_append, List.append_nil, List.length_cons, List.length_nil, Nat.zero_add, Nat.reduceAdd, Nat.reduceMul]); try exact rfl); (apply a_ldA 3; exact rfl; exact rfl); refine a_fld ?_; (apply a_ld1 2; exact rfl; exact rfl))
    refine a_callF1 0 rfl (find_own (n := w.nodes) (l := w.names) (nm := nm) (st := v.sort) (b := lb) (c := c)) ?_
    have ho := c98 v hv
    rcases findF_at (nm := nm) (st := v.sort) w.names 0 with ⟨h1, h2⟩ | ⟨j, x, h1, h2, h3⟩
    · have hp : (withF w nm v).d = .agg [.i w.nodes, .row 5 ((w.names ++ [Nv.mk nm v]).map Nv.cs)] := by
        unfold withF putL
        rw [h1, if_neg (by decide)]
        rfl
      rw [h1, hp]
      (refine a_geq ?_; refine a_cndbF rfl ?_; refine a_fld ?_; (apply a_ld1 3; exact rfl; exact rfl); (apply a_ldA 2; exact rfl; exact rfl); refine a_callS0 ho ?_; refine a_bldNv rfl rfl ?_; refine a_rowN1 rfl ?_)
      refine a_app 0 (w.names.map Nv.cs).flatten 1 (Nv.cs (Nv.mk nm v)) rfl (flat_len Nv.cs_len _) ⟨rfl, rfl, rfl⟩ rfl (by omega) fun b' c' => ?_
      (refine a_fld ?_; (apply a_st 3 _; exact rfl; exact rfl; exact rfl; exact rfl; (try dsimp only [afill, aparts, cl, chunk, List.take, List.drop, List.nil_append, List.cons_append, List.append_nil, List.length_cons, List.length_nil, Nat.zero_add, Nat.reduceAdd, Nat.reduceMul]); try exact rfl); (apply a_ldA 3; exact rfl; exact rfl); refine a_stA 1 rfl rfl rfl rfl ?_; (apply a_ldA 1; exact rfl; exact rfl))
      have e : (w.names.map Nv.cs).flatten ++ Nv.cs (Nv.mk nm v) = ((w.names ++ [Nv.mk nm v]).map Nv.cs).flatten := by
        rw [List.map_append, List.flatten_append]
        simp
      have el : w.names.length + 1 = (w.names ++ [Nv.mk nm v]).length := by simp
      rw [e, el]
      exact ge_world rfl rfl
    · rw [Nat.zero_add] at h1
      obtain ⟨hj, hx⟩ := List.getElem?_eq_some_iff.1 h2
      have hp : (withF w nm v).d = .agg [.i w.nodes, .row 5 ((w.names.set j (Nv.mk nm v)).map Nv.cs)] := by
        unfold withF putL
        rw [h1, if_pos (by omega), Int.toNat_natCast]
        rfl
      rw [h1, hp]
      (refine a_geq ?_; refine a_cndbT rfl ?_; refine a_fld ?_; (apply a_ld1 3; exact rfl; exact rfl); (apply a_ldA 2; exact rfl; exact rfl); refine a_callS0 ho ?_)
      refine a_idxO (by omega) (by omega) ?_
      rw [Int.toNat_natCast]
      refine a_fld ?_
      have hst := set_val (nm := nm) (v := v) w.names j hj (by rw [hx]; exact h3.1)
      have hfl := flat_len Nv.cs_len w.names
      refine a_st 0 ((w.names.set j (Nv.mk nm v)).map Nv.cs).flatten rfl rfl rfl (Nat.ble_eq_true_of_le (show 0 + j * 5 + 1 + 4 ≤ _ by omega)) hst ?_
      ((apply a_ldA 3; exact rfl; exact rfl); refine a_stA 1 rfl rfl rfl rfl ?_; (apply a_ldA 1; exact rfl; exact rfl))
      exact ge_world rfl (by rw [List.length_set])
end Go.Proofs.YtaigilchnadmpaaGreatDoor
/- A name's value put into a world: the law alone. -/
set_option linter.unusedVariables false
namespace Go.V
open Go
theorem find_at {nm : ByteArray} {st : Int} : ∀ (l : List Nv) (i : Nat), (findF nm st l i = -1 ∧ ∀ x ∈ l, ¬ (x.nm = nm ∧ x.v.sort = st)) ∨ ∃ j x, findF nm st l i = (i + j : Nat) ∧ l[j]? = some x ∧ x.nm = nm ∧ x.v.sort = st
  | [], i => .inl ⟨rfl, fun x hx => by cases hx⟩
  | x :: r, i => by
    rw [findF]
    by_cases h : x.nm = nm ∧ x.v.sort = st
    · rw [if_pos h]
      exact .inr ⟨0, x, rfl, rfl, h.1, h.2⟩
    · rw [if_neg h]
      rcases find_at r (i + 1) with ⟨h1, h2⟩ | ⟨j, y, h1, h2, h3⟩
      · refine .inl ⟨h1, fun y hy => ?_⟩
        rcases List.mem_cons.1 hy with rfl | hy
        · exact h
        · exact h2 y hy
      · exact .inr ⟨j + 1, y, by rw [h1]; congr 1; omega, h2, h3⟩
/-- either put at the end, no such name being there, or in the place of one of the name and sort -/
theorem put_cases (nm : ByteArray) (v : Vl) (l : List Nv) : (putL nm v l = l ++ [⟨nm, v⟩] ∧ ∀ x ∈ l, ¬ (x.nm = nm ∧ x.v.sort = v.sort)) ∨ ∃ j x, putL nm v l = l.set j ⟨nm, v⟩ ∧ l[j]? = some x ∧ x.nm = nm ∧ x.v.sort = v.sort := by
  unfold putL
  rcases find_at (nm := nm) (st := v.sort) l 0 with ⟨h1, h2⟩ | ⟨j, x, h1, h2, h3⟩
  · rw [h1, if_neg (by decide)]
    exact .inl ⟨rfl, h2⟩
  · rw [h1, if_pos (by omega), Nat.zero_add, Int.toNat_natCast]
    exact .inr ⟨j, x, rfl, h2, h3⟩
def keyN (x : Nv) : ByteArray × Int := (x.nm, x.v.sort)
theorem met_key {x y : Nv} : ∀ {l m : List Nv}, keyN x = keyN y → l.map keyN = m.map keyN → metB x l = metB y m
  | [], [], _, _ => rfl
  | [], _ :: _, _, h => by cases h
  | _ :: _, [], _, h => by cases h
  | a :: l, b :: m, hx, h => by
    rw [List.map_cons, List.map_cons] at h
    injection h with h1 h2
    have ih := met_key hx h2
    have hx1 := congrArg Prod.fst hx
    have hx2 := congrArg Prod.snd hx
    have h11 := congrArg Prod.fst h1
    have h12 := congrArg Prod.snd h1
    simp only [keyN] at hx1 hx2 h11 h12
    unfold metB at ih ⊢
    rw [List.any_cons, List.any_cons, ih, h11, h12, hx1, hx2]
theorem rightL_key {n : Int} : ∀ {l m seen seen' : List Nv}, l.map keyN = m.map keyN → seen.map keyN = seen'.map keyN → (∀ x ∈ m, isF x.v n = true) → rightLW n seen l = true → rightLW n seen' m = true
  | [], [], _, _, _, _, _, _ => rfl
  | [], _ :: _, _, _, h, _, _, _ => by cases h
  | _ :: _, [], _, _, h, _, _, _ => by cases h
  | a :: l, b :: m, seen, seen', h, hs, hi, hr => by
    rw [List.map_cons, List.map_cons] at h
    injection h with h1 h2
    rw [rightLW] at hr ⊢
    simp only [Bool.and_eq_true] at hr
    have h11 : a.nm = b.nm := congrArg Prod.fst h1
    rw [← met_key h1 hs, ← h11, hr.1.1.1, hr.1.2, hi b (by simp), rightL_key h2 (seen := seen ++ [a]) (seen' := seen' ++ [b]) (by rw [List.map_append, List.map_append, hs, List.map_cons, List.map_cons, h1]) (fun x hx => hi x (by simp [hx])) hr.2]
    rfl
theorem rightL_app {n : Int} {x : Nv} : ∀ (l seen : List Nv), rightLW n seen (l ++ [x]) = (rightLW n seen l && (nameF x.nm.data.toList && isF x.v n && !metB x (seen ++ l)))
  | [], seen => by rw [List.nil_append, rightLW, rightLW, rightLW, List.append_nil, Bool.and_true, Bool.true_and]
  | y :: r, seen => by
    rw [List.cons_append, rightLW, rightLW, rightL_app r (seen ++ [y]), List.append_assoc]
    simp only [List.cons_append, List.nil_append, Bool.and_assoc]
section
variable {w : Wd} {nm : ByteArray} {v : Vl}
theorem with_right (hw : rightW w = true) (hnm : nameF nm.data.toList = true) (hv : isF v w.nodes = true) (hl : w.names.length < 64) : rightW (withF w nm v) = true := by
  obtain ⟨h1, h2, h3, h4⟩ := rightW_spec hw
  unfold rightW withF
  simp only
  rw [decide_eq_true h1, decide_eq_true h2]
  rcases put_cases nm v w.names with ⟨e, hno⟩ | ⟨j, x, e, hj, hx1, hx2⟩
  · rw [e, rightL_app, h4, hnm, hv, List.nil_append]
    have hm : metB (Nv.mk nm v) w.names = false := by
      unfold metB
      rw [List.any_eq_false]
      intro y hy
      rw [Bool.and_eq_true, decide_eq_true_eq, decide_eq_true_eq]
      exact hno y hy
    rw [hm, List.length_append, decide_eq_true (by simp only [List.length_singleton]; omega)]
    rfl
  · obtain ⟨hlt, hjx⟩ := List.getElem?_eq_some_iff.1 hj
    rw [e, List.length_set, decide_eq_true h3]
    refine rightL_key (l := w.names) (seen := []) ?_ rfl ?_ h4
    · apply List.ext_getElem
      · simp
      · intro i q1 q2
        rw [List.getElem_map, List.getElem_map, List.getElem_set]
        split
        · next h =>
          subst h
          rw [hjx]
          exact Prod.ext hx1 hx2
        · rfl
    · intro y hy
      rcases List.mem_or_eq_of_mem_set hy with hy | rfl
      · exact (rightLW_mem h4 y hy).2
      · exact hv
theorem get_set {nm' : ByteArray} {s : Int} (hne : nm' ≠ nm) : ∀ (l : List Nv) (j : Nat) (x : Nv), l[j]? = some x → x.nm = nm → getF (l.set j ⟨nm, v⟩) nm' s = getF l nm' s
  | [], j, x, h, _ => by cases h
  | y :: r, 0, x, h, hx => by
    injection h with h
    subst h
    rw [List.set_cons_zero]
    unfold getF
    rw [List.find?_cons, List.find?_cons]
    have e1 : (decide (nm = nm') && decide (v.sort = s)) = false := by rw [decide_eq_false (Ne.symm hne), Bool.false_and]
    have e2 : (decide (y.nm = nm') && decide (y.v.sort = s)) = false := by rw [hx, decide_eq_false (Ne.symm hne), Bool.false_and]
    simp only [e1, e2]
  | y :: r, j + 1, x, h, hx => by
    have ih := get_set hne r j x (by simpa using h) hx (s := s)
    rw [List.set_cons_succ]
    unfold getF at ih ⊢
    rw [List.find?_cons, List.find?_cons]
    split
    · rfl
    · exact ih
theorem with_get {nm' : ByteArray} {s : Int} (hne : nm' ≠ nm) : getF (withF w nm v).names nm' s = getF w.names nm' s := by
  show getF (putL nm v w.names) nm' s = _
  rcases put_cases nm v w.names with ⟨e, hno⟩ | ⟨j, x, e, hj, hx1, hx2⟩
  · rw [e]
    unfold getF
    rw [List.find?_append]
    have e1 : ([Nv.mk nm v].find? fun x => decide (x.nm = nm') && decide (x.v.sort = s)) = none := by
      rw [List.find?_eq_none]
      intro y hy
      rw [List.mem_singleton.1 hy, decide_eq_false (Ne.symm hne)]
      simp
    rw [e1, Option.or_none]
  · rw [e]
    exact get_set hne _ j x hj hx1
/-- who puts a value to a name that is not in a term changes nothing of it -/
theorem apart_eval {t : Tm} (hw : rightW w = true) (hw' : rightW (withF w nm v) = true) (h : ∀ x ∈ NamesF t, str x.1 ≠ nm) : evalF t (withF w nm v) = evalF t w := by
  unfold evalF
  by_cases h0 : (sortF t).2 = 0
  · rw [if_neg (by rw [h0]; decide), if_neg (by rw [hw']; decide), if_neg (by rw [h0]; decide), if_neg (by rw [hw]; decide)]
    obtain ⟨_, _, r, _⟩ := sortF_ok h0
    have hn : NamesF t = namesT t := by unfold NamesF; rw [if_neg (by rw [h0]; decide)]
    rw [ev_apart (w := w) (u := withF w nm v) rfl t 0 r fun x hx => with_get (h x (by rw [hn, namesT_mem]; exact hx))]
  · rw [if_pos h0, if_pos h0]
/-- what a value says of the names that are there -/
theorem there_eval {t : Tm} (hw : rightW w = true) (h0 : (sortF t).2 = 0) :
    ((evalF t w).2 = 0 ∧ (∀ x ∈ NamesF t, (getF w.names (str x.1) (shpAt x.2).sort).isSome = true) ∧ OkV w (sortF t).1 (evalF t w).1) ∨
      ((evalF t w).1 = vz ∧ ((evalF t w).2 = 5 ∨ (evalF t w).2 = 4 ∧ ∃ x ∈ NamesF t, (getF w.names (str x.1) (shpAt x.2).sort).isSome = false)) := by
  obtain ⟨_, _, r, q⟩ := sortF_ok h0
  obtain ⟨g, n⟩ := right_self r
  rw [← q] at g n
  have e : sortF t = ((sortF t).1, 0) := Prod.ext rfl h0
  have hn : NamesF t = namesT t := by unfold NamesF; rw [if_neg (by rw [h0]; decide)]
  obtain ⟨t1, t2⟩ := ev_there (w := w) t 0 r
  rw [evalF_of hw e, hn]
  cases hv : evV w t with
  | ok u => exact .inl ⟨rfl, fun x hx => t1 u hv x ((namesT_mem _ _).1 hx), evV_ok hw g n hv⟩
  | error z =>
    refine .inr ⟨rfl, ?_⟩
    rcases evV_err t z hv with rfl | rfl
    · obtain ⟨x, hx, hs⟩ := t2 hv
      exact .inr ⟨rfl, x, (namesT_mem _ _).2 hx, hs⟩
    · exact .inl rfl
end
end Go.V
/- Names' values put into a world: what is read then. -/
set_option linter.unusedVariables false
namespace Go.V
theorem getF_cons (x : Nv) (r : List Nv) (nm : ByteArray) (s : Int) : getF (x :: r) nm s = if x.nm = nm ∧ x.v.sort = s then some x.v else getF r nm s := by
  unfold getF
  rw [List.find?_cons]
  by_cases h : x.nm = nm ∧ x.v.sort = s
  · rw [if_pos h, decide_eq_true h.1, decide_eq_true h.2]; rfl
  · have : (decide (x.nm = nm) && decide (x.v.sort = s)) = false := by
      rw [← Bool.not_eq_true, Bool.and_eq_true, decide_eq_true_eq, decide_eq_true_eq]; exact h
    rw [if_neg h, this]
theorem getF_none {nm : ByteArray} {s : Int} : ∀ {l : List Nv}, (∀ x ∈ l, ¬ (x.nm = nm ∧ x.v.sort = s)) → getF l nm s = none
  | [], _ => rfl
  | x :: r, h => by rw [getF_cons, if_neg (h x (by simp)), getF_none fun y hy => h y (by simp [hy])]
theorem getF_app {nm : ByteArray} {s : Int} : ∀ (l m : List Nv), getF (l ++ m) nm s = (getF l nm s).or (getF m nm s)
  | [], m => rfl
  | x :: r, m => by
    rw [List.cons_append, getF_cons, getF_cons, getF_app r m]
    split <;> rfl
/-- where it is found -/
theorem put_at {nm : ByteArray} {v : Vl} : ∀ (l : List Nv) (i : Nat), (findF nm v.sort l i = -1 ∧ ∀ x ∈ l, ¬ (x.nm = nm ∧ x.v.sort = v.sort)) ∨
    ∃ j, findF nm v.sort l i = (i + j : Nat) ∧ j < l.length ∧ (getF l nm v.sort).isSome = true ∧ getF (l.set j ⟨nm, v⟩) nm v.sort = some v ∧ ∀ nm' s', ¬ (nm' = nm ∧ s' = v.sort) → getF (l.set j ⟨nm, v⟩) nm' s' = getF l nm' s'
  | [], i => .inl ⟨rfl, fun x hx => by cases hx⟩
  | x :: r, i => by
    rw [findF]
    by_cases h : x.nm = nm ∧ x.v.sort = v.sort
    · rw [if_pos h]
      refine .inr ⟨0, rfl, by simp, by rw [getF_cons, if_pos h]; rfl, by rw [List.set_cons_zero, getF_cons, if_pos ⟨rfl, rfl⟩], fun nm' s' hne => ?_⟩
      rw [List.set_cons_zero, getF_cons, getF_cons, if_neg (fun q => hne ⟨q.1.symm, q.2.symm⟩), if_neg (fun q => hne ⟨q.1.symm.trans h.1, q.2.symm.trans h.2⟩)]
    · rw [if_neg h]
      rcases put_at r (i + 1) with ⟨h1, h2⟩ | ⟨j, h1, h2, h3, h4, h5⟩
      · refine .inl ⟨h1, fun y hy => ?_⟩
        rcases List.mem_cons.1 hy with rfl | hy
        · exact h
        · exact h2 y hy
      · refine .inr ⟨j + 1, by rw [h1]; congr 1; omega, by simpa using h2, by rw [getF_cons, if_neg h]; exact h3, by rw [List.set_cons_succ, getF_cons, if_neg h]; exact h4, fun nm' s' hne => ?_⟩
        rw [List.set_cons_succ, getF_cons, getF_cons, h5 nm' s' hne]
/-- of what was put -/
theorem put_law (nm : ByteArray) (v : Vl) (l : List Nv) : getF (putL nm v l) nm v.sort = some v ∧ (∀ nm' s', ¬ (nm' = nm ∧ s' = v.sort) → getF (putL nm v l) nm' s' = getF l nm' s') ∧
    ((putL nm v l).length : Int) = if (getF l nm v.sort).isSome = true then (l.length : Int) else (l.length : Int) + 1 := by
  unfold putL
  rcases put_at (nm := nm) (v := v) l 0 with ⟨h1, h2⟩ | ⟨j, h1, h2, h3, h4, h5⟩
  · rw [h1, if_neg (by decide)]
    have hn := getF_none h2
    refine ⟨by rw [getF_app, hn, getF_cons, if_pos ⟨rfl, rfl⟩]; rfl, fun nm' s' hne => ?_, ?_⟩
    · rw [getF_app, getF_cons, if_neg (fun q => hne ⟨q.1.symm, q.2.symm⟩)]
      show (getF l nm' s').or none = _
      rw [Option.or_none]
    · rw [hn, if_neg (by decide), List.length_append]
      simp
  · rw [h1, if_pos (by omega), Nat.zero_add, Int.toNat_natCast, h3, if_pos rfl, List.length_set]
    exact ⟨h4, h5, rfl⟩
end Go.V
