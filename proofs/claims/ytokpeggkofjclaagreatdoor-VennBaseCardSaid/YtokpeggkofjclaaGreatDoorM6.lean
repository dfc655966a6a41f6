/- What terms are in a world: the law alone. -/
import Derived.Test.YtokpeggkofjclaaGreatDoorT1
import Derived.Test.YtokpeggkofjclaaGreatDoorT3
set_option linter.unusedVariables false
namespace Go.V
open Go
/-- where a name stands, -1: nowhere -/
def findF (nm : ByteArray) (st : Int) : List Nv → Nat → Int
  | [], _ => -1
  | x :: r, i => if x.nm = nm ∧ x.v.sort = st then i else findF nm st r (i + 1)
def isF (v : Vl) (n : Int) : Bool := decide ((v.s.length : Int) = if v.sort = 2 then n else 0) && !(v.b && decide (v.sort ≠ 4)) && decide (v.sort = 1 ∨ (v.sort = 3 ∧ 0 ≤ v.n ∧ v.n < n) ∨ (v.sort = 2 ∧ v.n = 0) ∨ (v.sort = 4 ∧ v.n = 0))
/-- such a name has been met -/
def metB (x : Nv) (l : List Nv) : Bool := l.any fun y => decide (y.nm = x.nm) && decide (y.v.sort = x.v.sort)
def rightLW (n : Int) : List Nv → List Nv → Bool
  | _, [] => true
  | seen, x :: r => nameF x.nm.data.toList && isF x.v n && !metB x seen && rightLW n (seen ++ [x]) r
def rightW (w : Wd) : Bool := decide (1 ≤ w.nodes) && decide (w.nodes ≤ 64) && decide (w.names.length ≤ 64) && rightLW w.nodes [] w.names
def getF (l : List Nv) (nm : ByteArray) (st : Int) : Option Vl := (l.find? fun x => decide (x.nm = nm) && decide (x.v.sort = st)).map Nv.v
def getD' (l : List Nv) (nm : ByteArray) (st : Int) : D := .tuple [((getF l nm st).getD vz).d, .b (getF l nm st).isSome]
def inI (v : Int) : Bool := decide (-9223372036854775808 ≤ v) && decide (v ≤ 9223372036854775807)
def fitI (v : Int) : Int := bif inI v then v else 0
def cntF : List Bool → Int
  | [] => 0
  | x :: r => (if x then 1 else 0) + cntF r
def withinF : List Bool → List Bool → Bool
  | [], _ => true
  | x :: r, l => (!x || l.headD false) && withinF r l.tail
abbrev vI (n : Int) : Vl := ⟨1, n, false, []⟩
abbrev vS (s : List Bool) : Vl := ⟨2, 0, false, s⟩
abbrev vB (b : Bool) : Vl := ⟨4, 0, b, []⟩
def fit (v : Int) : Except Int Vl := if inI v = true then .ok (vI v) else .error 5
def nameV (w : Wd) (nm : ByteArray) (s : Int) : Except Int Vl := match getF w.names nm s with | some v => .ok v | none => .error 4
abbrev v0 (vs : List Vl) : Vl := vs.getD 0 vz
abbrev v1 (vs : List Vl) : Vl := vs.getD 1 vz
def whereF (w : Wd) (f : Nat → Bool) : Vl := vS ((List.range w.nodes.toNat).map f)
def opV (w : Wd) (op : Int) (nm : ByteArray) (n : Int) (vs : List Vl) : Except Int Vl :=
  match op.toNat with
  | 1 => .ok (vI n)
  | 2 => nameV w nm 1
  | 3 => .ok (vI (cntF (v0 vs).s))
  | 4 => fit ((v0 vs).n + (v1 vs).n)
  | 5 => fit ((v0 vs).n - (v1 vs).n)
  | 6 => fit (n * (v0 vs).n)
  | 7 => nameV w nm 2
  | 8 => .ok (whereF w fun _ => false)
  | 9 => .ok (whereF w fun _ => true)
  | 10 => .ok (whereF w fun i => decide ((i : Int) = (v0 vs).n))
  | 11 => .ok (whereF w fun i => (v0 vs).s.getD i false || (v1 vs).s.getD i false)
  | 12 => .ok (whereF w fun i => (v0 vs).s.getD i false && (v1 vs).s.getD i false)
  | 13 => .ok (whereF w fun i => (v0 vs).s.getD i false && !(v1 vs).s.getD i false)
  | 14 => nameV w nm 3
  | 15 => nameV w nm 4
  | 16 => .ok (vB true)
  | 17 => .ok (vB false)
  | 18 => .ok (vB (!(v0 vs).b))
  | 19 => .ok (vB (vs.all Vl.b))
  | 20 => .ok (vB (vs.any Vl.b))
  | 21 => .ok (vB ((v1 vs).b || !(v0 vs).b))
  | 22 => .ok (vB (decide ((v0 vs).n ≤ (v1 vs).n)))
  | 23 => .ok (vB (decide ((v0 vs).n < (v1 vs).n)))
  | 25 => .ok (vB ((v1 vs).s.getD (v0 vs).n.toNat false))
  | 26 => .ok (vB (withinF (v0 vs).s (v1 vs).s))
  | 27 => .ok (vB (decide ((v0 vs).s = (v1 vs).s)))
  | _ => .ok (vB (decide ((v0 vs).n = (v1 vs).n)))
mutual
def evV (w : Wd) : Tm → Except Int Vl
  | .mk op nm n a => match evL w a with | .error e => .error e | .ok vs => opV w op nm n vs
def evL (w : Wd) : List Tm → Except Int (List Vl)
  | [] => .ok []
  | x :: r => match evV w x with | .error e => .error e | .ok v => match evL w r with | .error e => .error e | .ok vs => .ok (v :: vs)
end
structure OkV (w : Wd) (s : Int) (v : Vl) : Prop where
  sort : v.sort = s
  len : v.s.length = if s = 2 then w.nodes.toNat else 0
  nod : s = 3 → 0 ≤ v.n ∧ v.n < w.nodes
  bol : s ≠ 4 → v.b = false
  num : s = 2 ∨ s = 4 → v.n = 0
theorem rightLW_mem {n : Int} : ∀ {l seen : List Nv}, rightLW n seen l = true → ∀ x ∈ l, nameF x.nm.data.toList = true ∧ isF x.v n = true
  | x :: r, seen, h, y, hy => by
    rw [rightLW] at h
    simp only [Bool.and_eq_true] at h
    rcases List.mem_cons.1 hy with rfl | hy
    · exact ⟨h.1.1.1, h.1.1.2⟩
    · exact rightLW_mem h.2 y hy
theorem rightW_spec {w : Wd} (h : rightW w = true) : 1 ≤ w.nodes ∧ w.nodes ≤ 64 ∧ w.names.length ≤ 64 ∧ rightLW w.nodes [] w.names = true := by
  unfold rightW at h
  simp only [Bool.and_eq_true, decide_eq_true_eq] at h
  exact ⟨h.1.1.1, h.1.1.2, h.1.2, h.2⟩
theorem isF_ok {w : Wd} {v : Vl} (h1 : 1 ≤ w.nodes) (h : isF v w.nodes = true) : OkV w v.sort v ∧ (v.sort = 1 ∨ v.sort = 2 ∨ v.sort = 3 ∨ v.sort = 4) := by
  unfold isF at h
  simp only [Bool.and_eq_true, decide_eq_true_eq, Bool.not_eq_true', Bool.and_eq_false_iff, decide_eq_false_iff_not, Decidable.not_not] at h
  obtain ⟨⟨h2, h3⟩, h4⟩ := h
  refine ⟨⟨rfl, ?_, ?_, ?_, ?_⟩, by omega⟩
  · split at h2
    · rename_i hs; rw [if_pos hs]; omega
    · rename_i hs; rw [if_neg hs]; omega
  · intro hs; omega
  · intro hs; exact h3.resolve_right hs
  · intro hs; omega
theorem getF_mem {l : List Nv} {nm : ByteArray} {s : Int} {v : Vl} (h : getF l nm s = some v) : ∃ x ∈ l, x.v = v ∧ x.nm = nm ∧ v.sort = s := by
  unfold getF at h
  obtain ⟨x, hx, rfl⟩ := Option.map_eq_some_iff.1 h
  have h1 := List.find?_some hx
  simp only [Bool.and_eq_true, decide_eq_true_eq] at h1
  exact ⟨x, List.mem_of_find?_eq_some hx, rfl, h1.1, h1.2⟩
theorem nameV_ok {w : Wd} {nm : ByteArray} {s : Int} {v : Vl} (hw : rightW w = true) (h : nameV w nm s = .ok v) : OkV w s v := by
  unfold nameV at h
  split at h
  · rename_i u hu
    injection h with h
    subst h
    obtain ⟨x, hx, rfl, _, hs⟩ := getF_mem hu
    obtain ⟨h1, _, _, h4⟩ := rightW_spec hw
    have := (isF_ok h1 (rightLW_mem h4 x hx).2).1
    rw [hs] at this
    exact this
  · cases h
theorem whereF_ok (w : Wd) (f : Nat → Bool) : OkV w 2 (whereF w f) := ⟨rfl, by simp [whereF], fun h => (by cases h), fun _ => rfl, fun _ => rfl⟩
theorem vI_ok (w : Wd) (n : Int) : OkV w 1 (vI n) := ⟨rfl, rfl, fun h => (by cases h), fun _ => rfl, fun h => (by omega)⟩
theorem vB_ok (w : Wd) (b : Bool) : OkV w 4 (vB b) := ⟨rfl, rfl, fun h => (by cases h), fun h => absurd rfl h, fun _ => rfl⟩
theorem fit_ok {w : Wd} {n : Int} {v : Vl} (h : fit n = .ok v) : OkV w 1 v ∧ v = vI n ∧ inI n = true := by
  unfold fit at h
  split at h
  · injection h with h; subst h; exact ⟨vI_ok w n, rfl, by assumption⟩
  · cases h
theorem opV_ok {w : Wd} {op : Int} {nm : ByteArray} {n : Int} {vs : List Vl} {v : Vl} (hw : rightW w = true) (h1 : 1 ≤ op) (h2 : op ≤ 28) (h : opV w op nm n vs = .ok v) : OkV w (shpAt op).sort v := by
  have hop : ∃ i : Fin 29, op = (i.1 : Int) := ⟨⟨op.toNat, by omega⟩, by simp only; omega⟩
  obtain ⟨i, rfl⟩ := hop
  unfold opV at h
  rw [Int.toNat_natCast] at h
  revert h1 h
  match i with
  | ⟨0, _⟩ => intro h1; simp at h1
  | ⟨1, _⟩ => intro _ h; injection h with h; subst h; exact vI_ok w n
  | ⟨2, _⟩ => intro _ h; exact nameV_ok hw h
  | ⟨3, _⟩ => intro _ h; injection h with h; subst h; exact vI_ok w _
  | ⟨4, _⟩ => intro _ h; exact (fit_ok h).1
  | ⟨5, _⟩ => intro _ h; exact (fit_ok h).1
  | ⟨6, _⟩ => intro _ h; exact (fit_ok h).1
  | ⟨7, _⟩ => intro _ h; exact nameV_ok hw h
  | ⟨8, _⟩ => intro _ h; injection h with h; subst h; exact whereF_ok w _
  | ⟨9, _⟩ => intro _ h; injection h with h; subst h; exact whereF_ok w _
  | ⟨10, _⟩ => intro _ h; injection h with h; subst h; exact whereF_ok w _
  | ⟨11, _⟩ => intro _ h; injection h with h; subst h; exact whereF_ok w _
  | ⟨12, _⟩ => intro _ h; injection h with h; subst h; exact whereF_ok w _
  | ⟨13, _⟩ => intro _ h; injection h with h; subst h; exact whereF_ok w _
  | ⟨14, _⟩ => intro _ h; exact nameV_ok hw h
  | ⟨15, _⟩ => intro _ h; exact nameV_ok hw h
  | ⟨16, _⟩ => intro _ h; injection h with h; subst h; exact vB_ok w _
  | ⟨17, _⟩ => intro _ h; injection h with h; subst h; exact vB_ok w _
  | ⟨18, _⟩ => intro _ h; injection h with h; subst h; exact vB_ok w _
  | ⟨19, _⟩ => intro _ h; injection h with h; subst h; exact vB_ok w _
  | ⟨20, _⟩ => intro _ h; injection h with h; subst h; exact vB_ok w _
  | ⟨21, _⟩ => intro _ h; injection h with h; subst h; exact vB_ok w _
  | ⟨22, _⟩ => intro _ h; injection h with h; subst h; exact vB_ok w _
  | ⟨23, _⟩ => intro _ h; injection h with h; subst h; exact vB_ok w _
  | ⟨24, _⟩ => intro _ h; injection h with h; subst h; exact vB_ok w _
  | ⟨25, _⟩ => intro _ h; injection h with h; subst h; exact vB_ok w _
  | ⟨26, _⟩ => intro _ h; injection h with h; subst h; exact vB_ok w _
  | ⟨27, _⟩ => intro _ h; injection h with h; subst h; exact vB_ok w _
  | ⟨28, _⟩ => intro _ h; injection h with h; subst h; exact vB_ok w _
theorem evV_eq (w : Wd) (op : Int) (nm : ByteArray) (n : Int) (a : List Tm) : evV w (.mk op nm n a) = match evL w a with | .error e => .error e | .ok vs => opV w op nm n vs := by rw [evV]
theorem evV_ok {w : Wd} {t : Tm} {s : Int} {v : Vl} (hw : rightW w = true) (ht : rightT t s = true) (hs : s ≠ 0) (h : evV w t = .ok v) : OkV w s v := by
  have h1 := right_sort ht hs
  rw [right_iff] at ht
  cases t with | mk op nm n a =>
  rw [evV_eq] at h
  split at h
  · cases h
  · rw [← h1]; exact opV_ok hw ht.op1 ht.op2 h
theorem evL0 (w : Wd) : evL w [] = .ok [] := by rw [evL]
theorem evL1 (w : Wd) (x : Tm) : evL w [x] = match evV w x with | .error e => .error e | .ok v => .ok [v] := by
  rw [evL, evL]
theorem evL2 (w : Wd) (x y : Tm) : evL w [x, y] = match evV w x with | .error e => .error e | .ok v => match evV w y with | .error e => .error e | .ok u => .ok [v, u] := by
  rw [evL, evL1]
  cases evV w x with
  | error e => rfl
  | ok v => cases evV w y <;> rfl
theorem evL_cons (w : Wd) (x : Tm) (r : List Tm) : evL w (x :: r) = match evV w x with | .error e => .error e | .ok v => match evL w r with | .error e => .error e | .ok vs => .ok (v :: vs) := by rw [evL]
/-- no part of a right term is of no sort -/
theorem kid_sort {t : Tm} {s : Int} (ht : rightT t s = true) (hs : s ≠ 0) (i : Nat) (hi : i < t.a.length) : (shpAt t.op).a.getD (bif (shpAt t.op).many then 0 else i) 0 ≠ 0 := by
  have h := (right_iff t s).1 ht
  have hop : ∃ k : Fin 29, t.op = (k.1 : Int) := ⟨⟨t.op.toNat, by have := h.op1; have := h.op2; omega⟩, by have := h.op1; simp only; omega⟩
  obtain ⟨k, hk⟩ := hop
  have h1 := h.op1
  have hl := h.len
  rw [hk] at h1 hl ⊢
  have key : ∀ k : Fin 29, 1 ≤ k.1 → ∀ j : Fin 3, ((shpAt (k.1 : Int)).many = true ∨ j.1 < (shpAt (k.1 : Int)).a.length) → (shpAt (k.1 : Int)).a.getD (bif (shpAt (k.1 : Int)).many then 0 else j.1) 0 ≠ 0 := by decide
  cases hm : (shpAt (k.1 : Int)).many with
  | true =>
    have := key k (by omega) ⟨0, by decide⟩ (.inl hm)
    rw [hm] at this
    exact this
  | false =>
    have hl := hl hm
    have h2 : ∀ k : Fin 29, (shpAt (k.1 : Int)).a.length ≤ 2 := by decide
    have h3 := h2 k
    have := key k (by omega) ⟨i, by omega⟩ (.inr (by simp only; omega))
    rw [hm] at this
    exact this
end Go.V
/- What norm makes has the same value: the law alone. -/
set_option linter.unusedVariables false
namespace Go.V
open Go
def valB : Except Int Vl → Option Bool | .ok v => some v.b | .error _ => none
def lB : Except Int (List Vl) → Option (List Bool) | .ok vs => some (vs.map Vl.b) | .error _ => none
section
variable {w : Wd}
theorem ev_mk (op : Int) (a : List Tm) : evV w (mk op a) = match evL w a with | .error e => .error e | .ok vs => opV w op ⟨#[]⟩ 0 vs := evV_eq w op _ _ a
theorem vB_not (x : Tm) : valB (evV w (mk 18 [x])) = (valB (evV w x)).map (!·) := by
  rw [ev_mk, evL1]
  cases evV w x <;> rfl
theorem lB_cons (x : Tm) (r : List Tm) : lB (evL w (x :: r)) = match valB (evV w x) with | none => none | some b => (lB (evL w r)).map (b :: ·) := by
  rw [evL_cons]
  cases evV w x with
  | error e => rfl
  | ok v => cases evL w r <;> rfl
theorem vB_and (a : List Tm) : valB (evV w (mk 19 a)) = (lB (evL w a)).map (·.all id) := by
  rw [ev_mk]
  cases evL w a with
  | error e => rfl
  | ok vs => show some (vs.all Vl.b) = some ((vs.map Vl.b).all id); rw [List.all_map]; rfl
theorem vB_or (a : List Tm) : valB (evV w (mk 20 a)) = (lB (evL w a)).map (·.any id) := by
  rw [ev_mk]
  cases evL w a with
  | error e => rfl
  | ok vs => show some (vs.any Vl.b) = some ((vs.map Vl.b).any id); rw [List.any_map]; rfl
/-- made, each of them, and turned if so -/
theorem lB_norm (no : Bool) : ∀ (a : List Tm), (∀ x ∈ a, valB (evV w (normT x no)) = (valB (evV w x)).map (xor no ·)) → lB (evL w (a.map (normT · no))) = (lB (evL w a)).map (·.map (xor no ·))
  | [], _ => by rw [List.map_nil, evL0]; rfl
  | x :: r, h => by
    rw [List.map_cons, lB_cons, lB_cons, h x (by simp), lB_norm no r fun y hy => h y (by simp [hy])]
    cases valB (evV w x) with
    | none => rfl
    | some b => cases lB (evL w r) <;> rfl
theorem cnt_le0 : ∀ l : List Bool, cntF l ≤ 0 ↔ ∀ b ∈ l, b = false
  | [] => by simp [cntF]
  | x :: r => by
    have h := cnt_le0 r
    have h0 : 0 ≤ cntF r := by
      clear h
      induction r with
      | nil => simp [cntF]
      | cons y r ih => rw [cntF]; split <;> omega
    rw [cntF]
    cases x
    · simp [h]
    · simp; omega
theorem cnt_where (f : Nat → Bool) : cntF (whereF w f).s ≤ 0 ↔ ∀ i : Nat, (i : Int) < w.nodes → f i = false := by
  rw [cnt_le0]
  unfold whereF
  simp only [List.mem_map, List.mem_range, forall_exists_index, and_imp]
  constructor
  · intro h i hi; exact h _ i (by omega) rfl
  · rintro h b i hi rfl; exact h i (by omega)
theorem within_iff : ∀ (a b : List Bool), a.length = b.length → (withinF a b = true ↔ ∀ i, i < a.length → (a.getD i false && !b.getD i false) = false)
  | [], b, _ => by simp [withinF]
  | x :: r, [], h => by simp at h
  | x :: r, y :: t, h => by
    rw [withinF, Bool.and_eq_true, List.headD_cons, List.tail_cons, within_iff r t (by simpa using h)]
    constructor
    · rintro ⟨h1, h2⟩ i hi
      cases i with
      | zero => cases x <;> cases y <;> simp_all
      | succ i => simpa using h2 i (by simpa using hi)
    · intro h0
      refine ⟨?_, fun i hi => by simpa using h0 (i + 1) (by simpa using hi)⟩
      have h2 : (x && !y) = false := h0 0 (by simp)
      revert h2
      cases x <;> cases y <;> decide
theorem eq_iff (a b : List Bool) (h : a.length = b.length) : a = b ↔ withinF a b = true ∧ withinF b a = true := by
  rw [within_iff a b h, within_iff b a h.symm]
  constructor
  · rintro rfl; exact ⟨fun i _ => by simp, fun i _ => by simp⟩
  · rintro ⟨h1, h2⟩
    apply List.ext_getElem h
    intro i hi hi'
    have e1 := h1 i hi
    have e2 := h2 i hi'
    rw [List.getD_eq_getElem?_getD, List.getD_eq_getElem?_getD, List.getElem?_eq_getElem hi, List.getElem?_eq_getElem hi'] at e1 e2
    simp only [Option.getD_some] at e1 e2
    cases ha : a[i] <;> cases hb : b[i] <;> simp_all
/-- there is no node that is in one and not in the other -/
theorem card_minus {x y : Tm} {v u : Vl} (hx : evV w x = .ok v) (hy : evV w y = .ok u) : evV w (emptyT (mk 13 [x, y])) = .ok (vB (decide (cntF (whereF w fun i => v.s.getD i false && !u.s.getD i false).s ≤ 0))) := by
  unfold emptyT leT
  rw [evV_eq, evL2]
  have h1 : evV w (mk 13 [x, y]) = .ok (whereF w fun i => v.s.getD i false && !u.s.getD i false) := by
    rw [ev_mk, evL2, hx, hy]; rfl
  have h2 : evV w (.mk 3 ⟨#[]⟩ 0 [mk 13 [x, y]]) = .ok (vI (cntF (whereF w fun i => v.s.getD i false && !u.s.getD i false).s)) := by
    rw [evV_eq, evL1, h1]; rfl
  have h3 : evV w (.mk 1 ⟨#[]⟩ 0 []) = .ok (vI 0) := by rw [evV_eq, evL0]; rfl
  rw [h2, h3]
  rfl
theorem card_err {x y : Tm} (h : (∃ e, evV w x = .error e) ∨ ∃ e, evV w y = .error e) : valB (evV w (emptyT (mk 13 [x, y]))) = none := by
  unfold emptyT leT
  have h1 : ∃ e, evV w (mk 13 [x, y]) = .error e := by
    rw [ev_mk, evL2]
    rcases h with ⟨e, h⟩ | ⟨e, h⟩
    · rw [h]; exact ⟨_, rfl⟩
    · rw [h]; cases evV w x <;> exact ⟨_, rfl⟩
  obtain ⟨e, h1⟩ := h1
  rw [evV_eq, evL2, evV_eq, evL1, h1]
  rfl
theorem vB_le (x y : Tm) : valB (evV w (leT x y)) = match evV w x with | .error _ => none | .ok v => match evV w y with | .error _ => none | .ok u => some (decide (v.n ≤ u.n)) := by
  unfold leT
  rw [evV_eq, evL2]
  cases evV w x with
  | error e => rfl
  | ok v => cases evV w y <;> rfl
theorem vB_two (op : Int) (x y : Tm) : valB (evV w (mk op [x, y])) = match evV w x with | .error _ => none | .ok v => match evV w y with | .error _ => none | .ok u => valB (opV w op ⟨#[]⟩ 0 [v, u]) := by
  rw [ev_mk, evL2]
  cases evV w x with
  | error e => rfl
  | ok v => cases evV w y <;> rfl
theorem ev_one {x : Tm} {v : Vl} (h : evV w x = .ok v) : evV w (mk 10 [x]) = .ok (whereF w fun i => decide ((i : Int) = v.n)) := by
  rw [ev_mk, evL1, h]; rfl
theorem ev_one_err {x : Tm} {e : Int} (h : evV w x = .error e) : evV w (mk 10 [x]) = .error e := by
  rw [ev_mk, evL1, h]
theorem where_get (f : Nat → Bool) (i : Nat) (hi : (i : Int) < w.nodes) : (whereF w f).s.getD i false = f i := by
  unfold whereF
  rw [List.getD_eq_getElem?_getD, List.getElem?_map, List.getElem?_range (by omega)]
  rfl
/-- turned, if so -/
theorem map_id (o : Option Bool) : o.map (xor false ·) = o := by cases o <;> simp
theorem map_not (o : Option Bool) : o.map (xor true ·) = o.map (!·) := by cases o <;> simp
theorem tu (p : Tm) (no : Bool) : valB (evV w (if no = true then mk 18 [p] else p)) = (valB (evV w p)).map (xor no ·) := by
  cases no
  · rw [map_id]; rfl
  · rw [if_pos rfl, vB_not, map_not]
theorem norm_val (hw : rightW w = true) (t : Tm) : rightT t 4 = true → ∀ no, valB (evV w (normT t no)) = (valB (evV w t)).map (xor no ·) := by
  induction t using Tm.ind' with
  | h t ih =>
    intro h no
    obtain ⟨h1, h2⟩ := right4 h
    obtain ⟨w1, _, _, _⟩ := rightW_spec hw
    cases t with | mk op nm n a =>
    simp only [Tm.op, Tm.a] at h1 h2 ih
    have hop : op = 15 ∨ op = 16 ∨ op = 17 ∨ op = 18 ∨ op = 19 ∨ op = 20 ∨ op = 21 ∨ op = 22 ∨ op = 23 ∨ op = 24 ∨ op = 25 ∨ op = 26 ∨ op = 27 ∨ op = 28 := by omega
    rcases hop with rfl | rfl | rfl | rfl | rfl | rfl | rfl | rfl | rfl | rfl | rfl | rfl | rfl | rfl
    · rw [normT_15]; exact tu _ no
    · obtain rfl := right0 h rfl rfl
      obtain ⟨rfl, rfl⟩ := right_bare h rfl rfl
      rw [show Tm.mk 16 ⟨#[]⟩ 0 [] = mk 16 [] from rfl, normT_16 (.inl rfl)]
      cases no <;> (simp only [ev_mk, evL0]; rfl)
    · obtain rfl := right0 h rfl rfl
      obtain ⟨rfl, rfl⟩ := right_bare h rfl rfl
      rw [show Tm.mk 17 ⟨#[]⟩ 0 [] = mk 17 [] from rfl, normT_16 (.inr rfl)]
      cases no <;> (simp only [ev_mk, evL0]; rfl)
    · obtain ⟨x, rfl, hx⟩ := right1 h rfl rfl
      obtain ⟨rfl, rfl⟩ := right_bare h rfl rfl
      rw [show Tm.mk 18 ⟨#[]⟩ 0 [x] = mk 18 [x] from rfl, normT_not, vB_not, ih x (by simp) hx]
      cases valB (evV w x) with
      | none => rfl
      | some b => cases no <;> simp
    · have hx := rightM h rfl rfl
      obtain ⟨rfl, rfl⟩ := right_bare h rfl rfl
      have hl := lB_norm (w := w) no a fun x hx' => ih x hx' (hx x hx') no
      rw [show Tm.mk 19 ⟨#[]⟩ 0 a = mk 19 a from rfl, normT_19 (.inl rfl), vB_and]
      cases no
      · rw [if_neg (by decide), vB_and, hl]
        cases lB (evL w a) with
        | none => rfl
        | some l => simp
      · rw [if_pos rfl, show turnedF 19 = 20 from rfl, vB_or, hl]
        cases lB (evL w a) with
        | none => rfl
        | some l => simp [List.any_map, List.not_all_eq_any_not]
    · have hx := rightM h rfl rfl
      obtain ⟨rfl, rfl⟩ := right_bare h rfl rfl
      have hl := lB_norm (w := w) no a fun x hx' => ih x hx' (hx x hx') no
      rw [show Tm.mk 20 ⟨#[]⟩ 0 a = mk 20 a from rfl, normT_19 (.inr rfl), vB_or]
      cases no
      · rw [if_neg (by decide), vB_or, hl]
        cases lB (evL w a) with
        | none => rfl
        | some l => simp
      · rw [if_pos rfl, show turnedF 20 = 19 from rfl, vB_and, hl]
        cases lB (evL w a) with
        | none => rfl
        | some l => simp [List.all_map, List.not_any_eq_all_not]
    · obtain ⟨x, y, rfl, hx, hy⟩ := right2 h rfl rfl
      obtain ⟨rfl, rfl⟩ := right_bare h rfl rfl
      have e1 := ih x (by simp) hx
      have e2 := ih y (by simp) hy
      rw [show Tm.mk 21 ⟨#[]⟩ 0 [x, y] = mk 21 [x, y] from rfl, normT_21, vB_two 21]
      have key : lB (evL w [normT x (!no), normT y no]) = match valB (evV w x) with | none => none | some b => (valB (evV w y)).map fun c => [xor (!no) b, xor no c] := by
        rw [lB_cons, lB_cons, e1, e2, evL0]
        cases valB (evV w x) with
        | none => rfl
        | some b => cases valB (evV w y) <;> rfl
      cases no
      · rw [if_neg (by decide), vB_or, key]
        cases evV w x with
        | error e => rfl
        | ok v =>
          cases evV w y with
          | error e => rfl
          | ok u => cases hv : v.b <;> cases hu : u.b <;> simp [valB, opV, hv, hu]
      · rw [if_pos rfl, vB_and, key]
        cases evV w x with
        | error e => rfl
        | ok v =>
          cases evV w y with
          | error e => rfl
          | ok u => cases hv : v.b <;> cases hu : u.b <;> simp [valB, opV, hv, hu]
    · obtain ⟨x, y, rfl, _, _⟩ := right2 h rfl rfl
      obtain ⟨rfl, rfl⟩ := right_bare h rfl rfl
      rw [show Tm.mk 22 ⟨#[]⟩ 0 [x, y] = leT x y from rfl, normT_le]; exact tu _ no
    · obtain ⟨x, y, rfl, _, _⟩ := right2 h rfl rfl
      obtain ⟨rfl, rfl⟩ := right_bare h rfl rfl
      have key : valB (evV w (mk 23 [x, y])) = (valB (evV w (leT y x))).map (!·) := by
        rw [vB_two, vB_le]
        cases evV w x with
        | error e => cases evV w y <;> rfl
        | ok v =>
          cases evV w y with
          | error e => rfl
          | ok u =>
            show some (decide (v.n < u.n)) = some (!decide (u.n ≤ v.n))
            congr 1
            by_cases hh : v.n < u.n
            · rw [decide_eq_true hh, decide_eq_false (by omega)]; rfl
            · rw [decide_eq_false hh, decide_eq_true (by omega)]; rfl
      rw [show Tm.mk 23 ⟨#[]⟩ 0 [x, y] = mk 23 [x, y] from rfl, normT_23, key]
      cases no
      · rw [if_neg (by decide), vB_not, map_id]
      · rw [if_pos rfl, map_not, Option.map_map]
        cases valB (evV w (leT y x)) <;> simp
    · obtain ⟨x, y, rfl, _, _⟩ := right2 h rfl rfl
      obtain ⟨rfl, rfl⟩ := right_bare h rfl rfl
      rw [show Tm.mk 24 ⟨#[]⟩ 0 [x, y] = mk 24 [x, y] from rfl, normT_24, vB_two]
      have key : ∀ x y : Tm, ∀ f : Bool → Bool, lB (evL w [x, y]) = match valB (evV w x) with | none => none | some b => (valB (evV w y)).map fun c => [b, c] := by
        intro x y f
        rw [lB_cons, lB_cons, evL0]
        cases valB (evV w x) with
        | none => rfl
        | some b => cases valB (evV w y) <;> rfl
      cases no
      · rw [if_neg (by decide), vB_and, key _ _ id, vB_le, vB_le, map_id]
        cases evV w x with
        | error e => cases evV w y <;> rfl
        | ok v =>
          cases evV w y with
          | error e => rfl
          | ok u =>
            show some (decide (v.n ≤ u.n) && (decide (u.n ≤ v.n) && true)) = some (decide (v.n = u.n))
            rw [Bool.and_true, ← Bool.decide_and]
            exact congrArg some (decide_eq_decide.2 (by omega))
      · rw [if_pos rfl, vB_or, key _ _ id, vB_not, vB_not, vB_le, vB_le, map_not]
        cases evV w x with
        | error e => cases evV w y <;> rfl
        | ok v =>
          cases evV w y with
          | error e => rfl
          | ok u =>
            show some (!decide (v.n ≤ u.n) || (!decide (u.n ≤ v.n) || false)) = some (!decide (v.n = u.n))
            rw [Bool.or_false, ← Bool.not_and, ← Bool.decide_and]
            exact congrArg some (congrArg (!·) (decide_eq_decide.2 (by omega)))
    · obtain ⟨x, y, rfl, hx, hy⟩ := right2 h rfl rfl
      obtain ⟨rfl, rfl⟩ := right_bare h rfl rfl
      have key : valB (evV w (mk 25 [x, y])) = valB (evV w (emptyT (mk 13 [mk 10 [x], y]))) := by
        rw [vB_two]
        cases hv : evV w x with
        | error e => rw [card_err (.inl ⟨_, ev_one_err hv⟩)]
        | ok v =>
          cases hu : evV w y with
          | error e => rw [card_err (.inr ⟨_, hu⟩)]
          | ok u =>
            have ok1 := (evV_ok hw hx (by decide) hv).nod rfl
            rw [card_minus (ev_one hv) hu]
            show some (u.s.getD v.n.toNat false) = some _
            congr 1
            have hi : ((v.n.toNat : Nat) : Int) = v.n := by omega
            rw [Bool.eq_iff_iff, decide_eq_true_eq, cnt_where]
            constructor
            · intro hb i hi'
              rw [where_get _ _ hi']
              by_cases he : (i : Int) = v.n
              · rw [show i = v.n.toNat by omega, hb]; simp
              · rw [decide_eq_false he]; rfl
            · intro hh
              have h3 := hh v.n.toNat (by omega)
              rw [where_get _ _ (by omega), decide_eq_true hi] at h3
              simpa using h3
      rw [show Tm.mk 25 ⟨#[]⟩ 0 [x, y] = mk 25 [x, y] from rfl, normT_25, tu, key]
    · obtain ⟨x, y, rfl, hx, hy⟩ := right2 h rfl rfl
      obtain ⟨rfl, rfl⟩ := right_bare h rfl rfl
      have key : valB (evV w (mk 26 [x, y])) = valB (evV w (emptyT (mk 13 [x, y]))) := by
        rw [vB_two]
        cases hv : evV w x with
        | error e => rw [card_err (.inl ⟨_, hv⟩)]
        | ok v =>
          cases hu : evV w y with
          | error e => rw [card_err (.inr ⟨_, hu⟩)]
          | ok u =>
            have l1 := (evV_ok hw hx (by decide) hv).len
            have l2 := (evV_ok hw hy (by decide) hu).len
            rw [if_pos rfl] at l1 l2
            rw [card_minus hv hu]
            show some (withinF v.s u.s) = some _
            congr 1
            rw [Bool.eq_iff_iff, decide_eq_true_eq, cnt_where, within_iff _ _ (by omega)]
            exact ⟨fun h i hi => h i (by omega), fun h i hi => h i (by omega)⟩
      rw [show Tm.mk 26 ⟨#[]⟩ 0 [x, y] = mk 26 [x, y] from rfl, normT_26, tu, key]
    · obtain ⟨x, y, rfl, hx, hy⟩ := right2 h rfl rfl
      obtain ⟨rfl, rfl⟩ := right_bare h rfl rfl
      rw [show Tm.mk 27 ⟨#[]⟩ 0 [x, y] = mk 27 [x, y] from rfl, normT_27, vB_two]
      have key : ∀ x y : Tm, lB (evL w [x, y]) = match valB (evV w x) with | none => none | some b => (valB (evV w y)).map fun c => [b, c] := by
        intro x y
        rw [lB_cons, lB_cons, evL0]
        cases valB (evV w x) with
        | none => rfl
        | some b => cases valB (evV w y) <;> rfl
      have both : ∀ v u, evV w x = .ok v → evV w y = .ok u → decide (v.s = u.s) = (decide (cntF (whereF w fun i => v.s.getD i false && !u.s.getD i false).s ≤ 0) && decide (cntF (whereF w fun i => u.s.getD i false && !v.s.getD i false).s ≤ 0)) := by
        intro v u hv hu
        have l1 := (evV_ok hw hx (by decide) hv).len
        have l2 := (evV_ok hw hy (by decide) hu).len
        rw [if_pos rfl] at l1 l2
        rw [Bool.eq_iff_iff, Bool.and_eq_true, decide_eq_true_eq, decide_eq_true_eq, decide_eq_true_eq, cnt_where, cnt_where, eq_iff _ _ (by omega), within_iff _ _ (by omega), within_iff _ _ (by omega)]
        exact ⟨fun h => ⟨fun i hi => h.1 i (by omega), fun i hi => h.2 i (by omega)⟩, fun h => ⟨fun i hi => h.1 i (by omega), fun i hi => h.2 i (by omega)⟩⟩
      cases hv : evV w x with
      | error e =>
        have c1 := card_err (w := w) (x := x) (y := y) (.inl ⟨_, hv⟩)
        cases no
        · rw [if_neg (by decide), vB_and, key, c1]; rfl
        · rw [if_pos rfl, vB_or, key, vB_not, c1]; rfl
      | ok v =>
        cases hu : evV w y with
        | error e =>
          have c1 := card_err (w := w) (x := x) (y := y) (.inr ⟨_, hu⟩)
          cases no
          · rw [if_neg (by decide), vB_and, key, c1]; rfl
          · rw [if_pos rfl, vB_or, key, vB_not, c1]; rfl
        | ok u =>
          have hb := both v u hv hu
          cases no
          · rw [if_neg (by decide), vB_and, key, card_minus hv hu, card_minus hu hv, map_id]
            show some (_ && (_ && true)) = some (decide (v.s = u.s))
            rw [hb, Bool.and_true]; rfl
          · rw [if_pos rfl, vB_or, key, vB_not, vB_not, card_minus hv hu, card_minus hu hv, map_not]
            show some (!_ || (!_ || false)) = some (!decide (v.s = u.s))
            rw [hb, Bool.or_false, Bool.not_and]
    · obtain ⟨x, y, rfl, hx, hy⟩ := right2 h rfl rfl
      obtain ⟨rfl, rfl⟩ := right_bare h rfl rfl
      have key : valB (evV w (mk 28 [x, y])) = valB (evV w (emptyT (mk 13 [mk 10 [x], mk 10 [y]]))) := by
        rw [vB_two]
        cases hv : evV w x with
        | error e => rw [card_err (.inl ⟨_, ev_one_err hv⟩)]
        | ok v =>
          cases hu : evV w y with
          | error e => rw [card_err (.inr ⟨_, ev_one_err hu⟩)]
          | ok u =>
            have ok1 := (evV_ok hw hx (by decide) hv).nod rfl
            rw [card_minus (ev_one hv) (ev_one hu)]
            show some (decide (v.n = u.n)) = some _
            congr 1
            rw [Bool.eq_iff_iff, decide_eq_true_eq, decide_eq_true_eq, cnt_where]
            constructor
            · intro he i hi
              rw [where_get _ _ hi, where_get _ _ hi, he]; simp
            · intro hh
              have h3 := hh v.n.toNat (by omega)
              have hi : ((v.n.toNat : Nat) : Int) = v.n := by omega
              rw [where_get _ _ (by omega), where_get _ _ (by omega), decide_eq_true hi] at h3
              have h4 : ((v.n.toNat : Nat) : Int) = u.n := by simpa using h3
              omega
      rw [show Tm.mk 28 ⟨#[]⟩ 0 [x, y] = mk 28 [x, y] from rfl, normT_28, tu, key]
/-- what stops it: no such name, or too large -/
theorem opV_err {op : Int} {nm : ByteArray} {n : Int} {vs : List Vl} {e : Int} (h : opV w op nm n vs = .error e) : e = 4 ∨ e = 5 := by
  have hn : ∀ s, nameV w nm s = .error e → e = 4 ∨ e = 5 := by
    intro s h
    unfold nameV at h
    split at h
    · cases h
    · injection h with h; exact .inl h.symm
  have hf : ∀ v, fit v = .error e → e = 4 ∨ e = 5 := by
    intro v h
    unfold fit at h
    split at h
    · cases h
    · injection h with h; exact .inr h.symm
  unfold opV at h
  split at h
  all_goals first | exact hn _ h | exact hf _ h | cases h
theorem evV_err (t : Tm) : ∀ e, evV w t = .error e → e = 4 ∨ e = 5 := by
  induction t using Tm.ind' with
  | h t ih =>
    intro e h
    cases t with | mk op nm n a =>
    simp only [Tm.a] at ih
    rw [evV_eq] at h
    have hl : ∀ (l : List Tm), (∀ x ∈ l, x ∈ a) → ∀ e, evL w l = .error e → e = 4 ∨ e = 5 := by
      intro l
      induction l with
      | nil => intro _ e h; rw [evL0] at h; cases h
      | cons x r ihr =>
        intro hm e h
        rw [evL_cons] at h
        split at h
        · next h1 => injection h with h; subst h; exact ih x (hm x (by simp)) _ h1
        · split at h
          · next h1 => injection h with h; subst h; exact ihr (fun y hy => hm y (by simp [hy])) _ h1
          · cases h
    split at h
    · next h1 => injection h with h; subst h; exact hl a (fun _ h => h) _ h1
    · exact opV_err h
end
end Go.V
