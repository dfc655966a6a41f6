/- Which node is which does not matter: the law alone. -/
import Derived.Test.YtlonmopppgadgaaDoorM7
set_option linter.unusedVariables false
namespace Go.V
open Go
def sw (a b : Nat) (l : List Bool) : List Bool := (l.set a (l.getD b false)).set b (l.getD a false)
def sg (a b i : Nat) : Nat := if i = a then b else if i = b then a else i
def sgI (a b : Nat) (n : Int) : Int := if n = (a : Int) then (b : Int) else if n = (b : Int) then (a : Int) else n
def turnV (a b : Nat) (v : Vl) : Vl := if v.sort = 2 then ⟨v.sort, v.n, v.b, sw a b v.s⟩ else if v.sort = 3 then ⟨v.sort, sgI a b v.n, v.b, v.s⟩ else v
def turnN (a b : Nat) (x : Nv) : Nv := ⟨x.nm, turnV a b x.v⟩
def turnW (a b : Nat) (w : Wd) : Wd := ⟨w.nodes, w.names.map (turnN a b)⟩
section
variable {a b : Nat} {w : Wd}
theorem turn_sort (v : Vl) : (turnV a b v).sort = v.sort := by unfold turnV; split; · rfl
                                                               split <;> rfl
theorem turn_b (v : Vl) : (turnV a b v).b = v.b := by unfold turnV; split; · rfl
                                                      split <;> rfl
theorem turn_other {v : Vl} (h2 : v.sort ≠ 2) (h3 : v.sort ≠ 3) : turnV a b v = v := by unfold turnV; rw [if_neg h2, if_neg h3]
theorem turn_set {v : Vl} (h2 : v.sort = 2) : turnV a b v = ⟨v.sort, v.n, v.b, sw a b v.s⟩ := by unfold turnV; rw [if_pos h2]
theorem turn_node {v : Vl} (h3 : v.sort = 3) : turnV a b v = ⟨v.sort, sgI a b v.n, v.b, v.s⟩ := by unfold turnV; rw [if_neg (by omega), if_pos h3]
theorem sw_len (l : List Bool) : (sw a b l).length = l.length := by simp [sw]
theorem sg_lt {i N : Nat} (ha : a < N) (hb : b < N) (hi : i < N) : sg a b i < N := by
  unfold sg
  split
  · exact hb
  · split
    · exact ha
    · exact hi
theorem sg_sg (i : Nat) : sg a b (sg a b i) = i := by
  unfold sg
  by_cases h1 : i = a <;> by_cases h2 : i = b <;> by_cases h3 : a = b <;> simp_all <;> omega
theorem sw_get {l : List Bool} {i : Nat} (ha : a < l.length) (hb : b < l.length) (hi : i < l.length) : (sw a b l).getD i false = l.getD (sg a b i) false := by
  unfold sw sg
  rw [List.getD_eq_getElem?_getD, List.getElem?_set]
  by_cases h1 : b = i
  · subst h1
    rw [if_pos rfl, if_pos (by simpa using hb)]
    by_cases h2 : b = a
    · subst h2; rw [if_pos rfl]; rfl
    · rw [if_neg h2, if_pos rfl]; rfl
  · rw [if_neg h1, List.getElem?_set]
    by_cases h2 : a = i
    · subst h2; rw [if_pos rfl, if_pos ha, if_pos rfl]; rfl
    · rw [if_neg h2, if_neg (fun h => h2 h.symm), if_neg (fun h => h1 h.symm), List.getD_eq_getElem?_getD]
theorem sw_sw {l : List Bool} (ha : a < l.length) (hb : b < l.length) : sw a b (sw a b l) = l := by
  apply List.ext_getElem
  · rw [sw_len, sw_len]
  · intro i h1 h2
    have e := sw_get (l := sw a b l) (by rw [sw_len]; exact ha) (by rw [sw_len]; exact hb) (i := i) (by rw [sw_len]; exact h2)
    rw [sw_get ha hb (sg_lt ha hb h2), sg_sg] at e
    rw [List.getD_eq_getElem?_getD, List.getD_eq_getElem?_getD, List.getElem?_eq_getElem h1, List.getElem?_eq_getElem h2] at e
    exact e
theorem cnt_set {y : Bool} : ∀ (l : List Bool) (i : Nat), i < l.length → cntF (l.set i y) + (if l.getD i false then 1 else 0) = cntF l + (if y then 1 else 0)
  | [], i, h => by simp at h
  | x :: r, 0, _ => by simp only [List.set_cons_zero, cntF, List.getD_cons_zero]; omega
  | x :: r, i + 1, h => by
    have := cnt_set r i (by simpa using h) (y := y)
    simp only [List.set_cons_succ, cntF, List.getD_cons_succ]; omega
theorem cnt_sw {l : List Bool} (ha : a < l.length) (hb : b < l.length) : cntF (sw a b l) = cntF l := by
  unfold sw
  have h1 := cnt_set (y := l.getD a false) (l.set a (l.getD b false)) b (by simpa using hb)
  have h2 := cnt_set (y := l.getD b false) l a ha
  have h3 : (l.set a (l.getD b false)).getD b false = l.getD b false := by
    rw [List.getD_eq_getElem?_getD, List.getElem?_set]
    by_cases h : a = b
    · subst h; rw [if_pos rfl, if_pos ha]; rfl
    · rw [if_neg h, ← List.getD_eq_getElem?_getD]
  rw [h3] at h1
  omega
theorem sw_where {N : Nat} (f : Nat → Bool) (ha : a < N) (hb : b < N) : sw a b ((List.range N).map f) = (List.range N).map fun i => f (sg a b i) := by
  apply List.ext_getElem
  · rw [sw_len]; simp
  · intro i h1 h2
    have hN : ((List.range N).map f).length = N := by simp
    have hi : i < N := by simpa using h2
    have e := sw_get (l := (List.range N).map f) (a := a) (b := b) (i := i) (by omega) (by omega) (by omega)
    have g := sg_lt ha hb hi
    rw [List.getD_eq_getElem?_getD, List.getD_eq_getElem?_getD, List.getElem?_eq_getElem h1, List.getElem?_eq_getElem (by rw [hN]; exact g)] at e
    simp only [Option.getD_some, List.getElem_map, List.getElem_range] at e ⊢
    exact e
theorem turn_where (f : Nat → Bool) (ha : a < w.nodes.toNat) (hb : b < w.nodes.toNat) : turnV a b (whereF w f) = whereF w fun i => f (sg a b i) := by
  rw [turn_set rfl]
  unfold whereF
  rw [sw_where f ha hb]
theorem where_congr {f g : Nat → Bool} (h : ∀ i, i < w.nodes.toNat → f i = g i) : whereF w f = whereF w g := by
  unfold whereF
  congr 1
  exact List.map_congr_left fun i hi => h i (by simpa using hi)
theorem where_turn (f : Nat → Bool) : whereF (turnW a b w) f = whereF w f := rfl
/-- a right world stays one -/
theorem isF_turn {v : Vl} {n : Int} (ha : (a : Int) < n) (hb : (b : Int) < n) (h : isF v n = true) : isF (turnV a b v) n = true := by
  by_cases h2 : v.sort = 2
  · rw [turn_set h2]
    unfold isF at h ⊢
    simp only [sw_len]
    exact h
  · by_cases h3 : v.sort = 3
    · rw [turn_node h3]
      unfold isF at h ⊢
      simp only [Bool.and_eq_true, decide_eq_true_eq] at h ⊢
      refine ⟨h.1, ?_⟩
      have hn := h.2
      have : 0 ≤ sgI a b v.n ∧ sgI a b v.n < n := by unfold sgI; split; · omega
                                                     split <;> omega
      omega
    · rw [turn_other h2 h3]; exact h
theorem met_turn (x : Nv) (l : List Nv) : metB (turnN a b x) (l.map (turnN a b)) = metB x l := by
  unfold metB
  rw [List.any_map]
  congr 1
  funext y
  simp only [Function.comp, turnN, turn_sort]
  rfl
theorem rightL_turn {n : Int} (ha : (a : Int) < n) (hb : (b : Int) < n) : ∀ (l seen : List Nv), rightLW n seen l = true → rightLW n (seen.map (turnN a b)) (l.map (turnN a b)) = true
  | [], _, _ => rfl
  | x :: r, seen, h => by
    rw [rightLW] at h
    simp only [Bool.and_eq_true] at h
    rw [List.map_cons, rightLW, met_turn]
    have := rightL_turn ha hb r (seen ++ [x]) h.2
    rw [List.map_append, List.map_cons, List.map_nil] at this
    rw [this, h.1.2, show isF (turnN a b x).v n = true from isF_turn ha hb h.1.1.2, show nameF (turnN a b x).nm.data.toList = true from h.1.1.1]
    rfl
theorem right_turn (ha : (a : Int) < w.nodes) (hb : (b : Int) < w.nodes) (h : rightW w = true) : rightW (turnW a b w) = true := by
  obtain ⟨h1, h2, h3, h4⟩ := rightW_spec h
  unfold rightW turnW
  simp only [List.length_map]
  rw [decide_eq_true h1, decide_eq_true h2, decide_eq_true h3]
  exact rightL_turn ha hb _ _ h4
theorem getF_turn (l : List Nv) (nm : ByteArray) (s : Int) : getF (l.map (turnN a b)) nm s = (getF l nm s).map (turnV a b) := by
  unfold getF
  rw [List.find?_map, Option.map_map, Option.map_map]
  have : ((fun x : Nv => decide (x.nm = nm) && decide (x.v.sort = s)) ∘ turnN a b) = fun x => decide (x.nm = nm) && decide (x.v.sort = s) := by
    funext x; simp only [Function.comp, turnN, turn_sort]
    rfl
  rw [this]
  rfl
theorem nameV_turn (nm : ByteArray) (s : Int) : nameV (turnW a b w) nm s = (nameV w nm s).map (turnV a b) := by
  unfold nameV
  rw [show (turnW a b w).names = w.names.map (turnN a b) from rfl, getF_turn]
  cases getF w.names nm s <;> rfl
/-! ### the value of a term in a turned world -/
theorem t_zero {op : Int} {nm : ByteArray} {n : Int} (h : opV (turnW a b w) op nm n [] = (opV w op nm n []).map (turnV a b)) : evV (turnW a b w) (.mk op nm n []) = (evV w (.mk op nm n [])).map (turnV a b) := by
  rw [evV_eq, evV_eq, evL0, evL0]; exact h
theorem t_one {op : Int} {nm : ByteArray} {n : Int} {x : Tm} (e : evV (turnW a b w) x = (evV w x).map (turnV a b)) (h : ∀ v, evV w x = .ok v → opV (turnW a b w) op nm n [turnV a b v] = (opV w op nm n [v]).map (turnV a b)) :
    evV (turnW a b w) (.mk op nm n [x]) = (evV w (.mk op nm n [x])).map (turnV a b) := by
  rw [evV_eq, evV_eq, evL1, evL1, e]
  cases hv : evV w x with
  | error z => rfl
  | ok v => exact h v hv
theorem t_two {op : Int} {nm : ByteArray} {n : Int} {x y : Tm} (e : evV (turnW a b w) x = (evV w x).map (turnV a b)) (e' : evV (turnW a b w) y = (evV w y).map (turnV a b))
    (h : ∀ v u, evV w x = .ok v → evV w y = .ok u → opV (turnW a b w) op nm n [turnV a b v, turnV a b u] = (opV w op nm n [v, u]).map (turnV a b)) :
    evV (turnW a b w) (.mk op nm n [x, y]) = (evV w (.mk op nm n [x, y])).map (turnV a b) := by
  rw [evV_eq, evV_eq, evL2, evL2, e, e']
  cases hv : evV w x with
  | error z => rfl
  | ok v =>
    cases hu : evV w y with
    | error z => rfl
    | ok u => exact h v u hv hu
theorem t_many {op : Int} {nm : ByteArray} {n : Int} {l : List Tm} (e : ∀ x ∈ l, evV (turnW a b w) x = (evV w x).map (turnV a b)) (h : ∀ vs, opV (turnW a b w) op nm n (vs.map (turnV a b)) = (opV w op nm n vs).map (turnV a b)) :
    evV (turnW a b w) (.mk op nm n l) = (evV w (.mk op nm n l)).map (turnV a b) := by
  have key : evL (turnW a b w) l = (evL w l).map (List.map (turnV a b)) := by
    clear h
    induction l with
    | nil => rw [evL0, evL0]; rfl
    | cons x r ih =>
      rw [evL_cons, evL_cons, e x (by simp), ih fun y hy => e y (by simp [hy])]
      cases evV w x with
      | error z => rfl
      | ok v => cases evL w r <;> rfl
  rw [evV_eq, evV_eq, key]
  cases evL w l with
  | error z => rfl
  | ok vs => exact h vs
theorem sgI_inj (n m : Int) : sgI a b n = sgI a b m ↔ n = m := by
  unfold sgI
  constructor
  · intro h
    split at h <;> split at h <;> (try split at h) <;> (try split at h) <;> omega
  · rintro rfl; rfl
theorem turn_val (hw : rightW w = true) (ha : a < w.nodes.toNat) (hb : b < w.nodes.toNat) (t : Tm) : ∀ s, rightT t s = true → s ≠ 0 → evV (turnW a b w) t = (evV w t).map (turnV a b) := by
  induction t using Tm.ind' with
  | h t ih =>
    intro s h hs
    have r := (right_iff t s).1 h
    have h1 := r.op1
    have h2 := r.op2
    cases t with | mk op nm n l =>
    simp only [Tm.op, Tm.a] at h1 h2 ih
    have okv : ∀ {x v s}, rightT x s = true → s ≠ 0 → evV w x = .ok v → OkV w s v := fun hr hs he => evV_ok hw hr hs he
    have l2 : ∀ {v}, OkV w 2 v → a < v.s.length ∧ b < v.s.length ∧ v.s.length = w.nodes.toNat := fun h => by
      have := h.len; rw [if_pos rfl] at this; omega
    have same : ∀ {v s}, OkV w s v → s ≠ 2 → s ≠ 3 → turnV a b v = v := fun h k2 k3 => turn_other (by rw [h.sort]; exact k2) (by rw [h.sort]; exact k3)
    have get : ∀ {v}, OkV w 2 v → ∀ i, i < w.nodes.toNat → (turnV a b v).s.getD i false = v.s.getD (sg a b i) false := fun h i hi => by
      obtain ⟨p, q, e⟩ := l2 h
      rw [turn_set h.sort]
      exact sw_get p q (by omega)
    have hop : op = 1 ∨ op = 2 ∨ op = 3 ∨ op = 4 ∨ op = 5 ∨ op = 6 ∨ op = 7 ∨ op = 8 ∨ op = 9 ∨ op = 10 ∨ op = 11 ∨ op = 12 ∨ op = 13 ∨ op = 14 ∨ op = 15 ∨ op = 16 ∨ op = 17 ∨ op = 18 ∨ op = 19 ∨ op = 20 ∨ op = 21 ∨ op = 22 ∨ op = 23 ∨ op = 24 ∨ op = 25 ∨ op = 26 ∨ op = 27 ∨ op = 28 := by omega
    have fitT : ∀ v, (fit v).map (turnV a b) = fit v := fun v => by unfold fit; split <;> rfl
    rcases hop with rfl | rfl | rfl | rfl | rfl | rfl | rfl | rfl | rfl | rfl | rfl | rfl | rfl | rfl | rfl | rfl | rfl | rfl | rfl | rfl | rfl | rfl | rfl | rfl | rfl | rfl | rfl | rfl
    · obtain rfl := right0 h rfl rfl; exact t_zero rfl
    · obtain rfl := right0 h rfl rfl; exact t_zero (nameV_turn _ _)
    · obtain ⟨x, rfl, hx⟩ := right1 h rfl rfl
      refine t_one (ih x (by simp) _ hx (by decide)) fun v hv => ?_
      obtain ⟨p, q, _⟩ := l2 (okv hx (by decide) hv)
      show Except.ok (vI (cntF (turnV a b v).s)) = Except.ok (turnV a b (vI (cntF v.s)))
      rw [turn_set (okv hx (by decide) hv).sort, show (Vl.mk v.sort v.n v.b (sw a b v.s)).s = sw a b v.s from rfl, cnt_sw p q]
      rfl
    · obtain ⟨x, y, rfl, hx, hy⟩ := right2 h rfl rfl
      refine t_two (ih x (by simp) _ hx (by decide)) (ih y (by simp) _ hy (by decide)) fun v u hv hu => ?_
      rw [same (okv hx (by decide) hv) (by decide) (by decide), same (okv hy (by decide) hu) (by decide) (by decide)]
      exact (fitT _).symm
    · obtain ⟨x, y, rfl, hx, hy⟩ := right2 h rfl rfl
      refine t_two (ih x (by simp) _ hx (by decide)) (ih y (by simp) _ hy (by decide)) fun v u hv hu => ?_
      rw [same (okv hx (by decide) hv) (by decide) (by decide), same (okv hy (by decide) hu) (by decide) (by decide)]
      exact (fitT _).symm
    · obtain ⟨x, rfl, hx⟩ := right1 h rfl rfl
      refine t_one (ih x (by simp) _ hx (by decide)) fun v hv => ?_
      rw [same (okv hx (by decide) hv) (by decide) (by decide)]
      exact (fitT _).symm
    · obtain rfl := right0 h rfl rfl; exact t_zero (nameV_turn _ _)
    · obtain rfl := right0 h rfl rfl
      refine t_zero ?_
      show Except.ok (whereF w _) = Except.ok (turnV a b (whereF w _))
      rw [turn_where _ ha hb]
    · obtain rfl := right0 h rfl rfl
      refine t_zero ?_
      show Except.ok (whereF w _) = Except.ok (turnV a b (whereF w _))
      rw [turn_where _ ha hb]
    · obtain ⟨x, rfl, hx⟩ := right1 h rfl rfl
      refine t_one (ih x (by simp) _ hx (by decide)) fun v hv => ?_
      show Except.ok (whereF w fun i => decide ((i : Int) = (turnV a b v).n)) = Except.ok (turnV a b (whereF w fun i => decide ((i : Int) = v.n)))
      rw [turn_where _ ha hb, turn_node (okv hx (by decide) hv).sort]
      refine congrArg Except.ok (where_congr fun i hi => decide_eq_decide.2 ?_)
      show (i : Int) = sgI a b v.n ↔ ((sg a b i : Nat) : Int) = v.n
      unfold sgI sg
      split <;> split <;> (try split) <;> (try split) <;> omega
    · obtain ⟨x, y, rfl, hx, hy⟩ := right2 h rfl rfl
      refine t_two (ih x (by simp) _ hx (by decide)) (ih y (by simp) _ hy (by decide)) fun v u hv hu => ?_
      show Except.ok (whereF w _) = Except.ok (turnV a b (whereF w _))
      rw [turn_where _ ha hb]
      refine congrArg Except.ok (where_congr fun i hi => ?_)
      show ((turnV a b v).s.getD i false || (turnV a b u).s.getD i false) = _
      rw [get (okv hx (by decide) hv) i hi, get (okv hy (by decide) hu) i hi]; rfl
    · obtain ⟨x, y, rfl, hx, hy⟩ := right2 h rfl rfl
      refine t_two (ih x (by simp) _ hx (by decide)) (ih y (by simp) _ hy (by decide)) fun v u hv hu => ?_
      show Except.ok (whereF w _) = Except.ok (turnV a b (whereF w _))
      rw [turn_where _ ha hb]
      refine congrArg Except.ok (where_congr fun i hi => ?_)
      show ((turnV a b v).s.getD i false && (turnV a b u).s.getD i false) = _
      rw [get (okv hx (by decide) hv) i hi, get (okv hy (by decide) hu) i hi]; rfl
    · obtain ⟨x, y, rfl, hx, hy⟩ := right2 h rfl rfl
      refine t_two (ih x (by simp) _ hx (by decide)) (ih y (by simp) _ hy (by decide)) fun v u hv hu => ?_
      show Except.ok (whereF w _) = Except.ok (turnV a b (whereF w _))
      rw [turn_where _ ha hb]
      refine congrArg Except.ok (where_congr fun i hi => ?_)
      show ((turnV a b v).s.getD i false && !(turnV a b u).s.getD i false) = _
      rw [get (okv hx (by decide) hv) i hi, get (okv hy (by decide) hu) i hi]; rfl
    · obtain rfl := right0 h rfl rfl; exact t_zero (nameV_turn _ _)
    · obtain rfl := right0 h rfl rfl; exact t_zero (nameV_turn _ _)
    · obtain rfl := right0 h rfl rfl; exact t_zero rfl
    · obtain rfl := right0 h rfl rfl; exact t_zero rfl
    · obtain ⟨x, rfl, hx⟩ := right1 h rfl rfl
      refine t_one (ih x (by simp) _ hx (by decide)) fun v hv => ?_
      rw [same (okv hx (by decide) hv) (by decide) (by decide)]; rfl
    · have hx := rightM h rfl rfl
      refine t_many (fun x hm => ih x hm _ (hx x hm) (by decide)) fun vs => ?_
      show Except.ok (vB ((vs.map (turnV a b)).all Vl.b)) = Except.ok (vB (vs.all Vl.b))
      rw [List.all_map]
      simp only [Function.comp_def, turn_b]
    · have hx := rightM h rfl rfl
      refine t_many (fun x hm => ih x hm _ (hx x hm) (by decide)) fun vs => ?_
      show Except.ok (vB ((vs.map (turnV a b)).any Vl.b)) = Except.ok (vB (vs.any Vl.b))
      rw [List.any_map]
      simp only [Function.comp_def, turn_b]
    · obtain ⟨x, y, rfl, hx, hy⟩ := right2 h rfl rfl
      refine t_two (ih x (by simp) _ hx (by decide)) (ih y (by simp) _ hy (by decide)) fun v u hv hu => ?_
      rw [same (okv hx (by decide) hv) (by decide) (by decide), same (okv hy (by decide) hu) (by decide) (by decide)]; rfl
    · obtain ⟨x, y, rfl, hx, hy⟩ := right2 h rfl rfl
      refine t_two (ih x (by simp) _ hx (by decide)) (ih y (by simp) _ hy (by decide)) fun v u hv hu => ?_
      rw [same (okv hx (by decide) hv) (by decide) (by decide), same (okv hy (by decide) hu) (by decide) (by decide)]; rfl
    · obtain ⟨x, y, rfl, hx, hy⟩ := right2 h rfl rfl
      refine t_two (ih x (by simp) _ hx (by decide)) (ih y (by simp) _ hy (by decide)) fun v u hv hu => ?_
      rw [same (okv hx (by decide) hv) (by decide) (by decide), same (okv hy (by decide) hu) (by decide) (by decide)]; rfl
    · obtain ⟨x, y, rfl, hx, hy⟩ := right2 h rfl rfl
      refine t_two (ih x (by simp) _ hx (by decide)) (ih y (by simp) _ hy (by decide)) fun v u hv hu => ?_
      rw [same (okv hx (by decide) hv) (by decide) (by decide), same (okv hy (by decide) hu) (by decide) (by decide)]; rfl
    · obtain ⟨x, y, rfl, hx, hy⟩ := right2 h rfl rfl
      refine t_two (ih x (by simp) _ hx (by decide)) (ih y (by simp) _ hy (by decide)) fun v u hv hu => ?_
      have nv := (okv hx (by decide) hv).nod rfl
      have su : sg a b (sgI a b v.n).toNat = v.n.toNat ∧ (sgI a b v.n).toNat < w.nodes.toNat := by
        unfold sgI sg
        split <;> (try split) <;> (try split) <;> (try split) <;> omega
      show Except.ok (vB ((turnV a b u).s.getD (turnV a b v).n.toNat false)) = Except.ok (vB (u.s.getD v.n.toNat false))
      rw [turn_node (okv hx (by decide) hv).sort, show (Vl.mk v.sort (sgI a b v.n) v.b v.s).n = sgI a b v.n from rfl, get (okv hy (by decide) hu) _ su.2, su.1]
    · obtain ⟨x, y, rfl, hx, hy⟩ := right2 h rfl rfl
      refine t_two (ih x (by simp) _ hx (by decide)) (ih y (by simp) _ hy (by decide)) fun v u hv hu => ?_
      have ov := okv hx (by decide) hv
      have ou := okv hy (by decide) hu
      obtain ⟨p, q, e⟩ := l2 ov
      obtain ⟨p', q', e'⟩ := l2 ou
      have gv := get ov
      have gu := get ou
      have lv : (turnV a b v).s.length = w.nodes.toNat := by rw [turn_set ov.sort]; exact (sw_len _).trans e
      have lu : (turnV a b u).s.length = w.nodes.toNat := by rw [turn_set ou.sort]; exact (sw_len _).trans e'
      show Except.ok (vB (withinF (turnV a b v).s (turnV a b u).s)) = Except.ok (vB (withinF v.s u.s))
      refine congrArg (fun z => Except.ok (vB z)) ?_
      rw [Bool.eq_iff_iff, within_iff _ _ (by omega), within_iff _ _ (by omega)]
      constructor
      · intro hh i hi
        have := hh (sg a b i) (by have := sg_lt ha hb (i := i) (by omega); omega)
        rwa [gv _ (sg_lt ha hb (by omega)), gu _ (sg_lt ha hb (by omega)), sg_sg] at this
      · intro hh i hi
        rw [gv i (by omega), gu i (by omega)]
        exact hh _ (by have := sg_lt ha hb (i := i) (by omega); omega)
    · obtain ⟨x, y, rfl, hx, hy⟩ := right2 h rfl rfl
      refine t_two (ih x (by simp) _ hx (by decide)) (ih y (by simp) _ hy (by decide)) fun v u hv hu => ?_
      have ov := okv hx (by decide) hv
      have ou := okv hy (by decide) hu
      obtain ⟨p, q, e⟩ := l2 ov
      obtain ⟨p', q', e'⟩ := l2 ou
      show Except.ok (vB (decide ((turnV a b v).s = (turnV a b u).s))) = Except.ok (vB (decide (v.s = u.s)))
      rw [turn_set ov.sort, turn_set ou.sort]
      refine congrArg (fun z => Except.ok (vB z)) (decide_eq_decide.2 ⟨fun hh => ?_, fun hh => ?_⟩)
      · have hh : sw a b v.s = sw a b u.s := hh
        rw [← sw_sw p q, hh, sw_sw p' q']
      · show sw a b v.s = sw a b u.s
        rw [hh]
    · obtain ⟨x, y, rfl, hx, hy⟩ := right2 h rfl rfl
      refine t_two (ih x (by simp) _ hx (by decide)) (ih y (by simp) _ hy (by decide)) fun v u hv hu => ?_
      show Except.ok (vB (decide ((turnV a b v).n = (turnV a b u).n))) = Except.ok (vB (decide (v.n = u.n)))
      rw [turn_node (okv hx (by decide) hv).sort, turn_node (okv hy (by decide) hu).sort]
      exact congrArg (fun z => Except.ok (vB z)) (decide_eq_decide.2 (sgI_inj _ _))
/-- what is counted is as it was -/
theorem turn_eval (hw : rightW w = true) (ha : a < w.nodes.toNat) (hb : b < w.nodes.toNat) {t : Tm} (h0 : (sortF t).2 = 0) (h1 : (sortF t).1 = 1 ∨ (sortF t).1 = 4) : evalF t (turnW a b w) = evalF t w := by
  obtain ⟨_, _, r, q⟩ := sortF_ok h0
  obtain ⟨g, n⟩ := right_self r
  rw [← q] at g n
  have e : sortF t = ((sortF t).1, 0) := Prod.ext rfl h0
  rw [evalF_of (right_turn (by omega) (by omega) hw) e, evalF_of hw e, turn_val hw ha hb t _ g n]
  cases hv : evV w t with
  | error z => rfl
  | ok v =>
    have := (evV_ok hw g n hv).sort
    show (turnV a b v, (0 : Int)) = (v, 0)
    rw [turn_other (by omega) (by omega)]
end
end Go.V
