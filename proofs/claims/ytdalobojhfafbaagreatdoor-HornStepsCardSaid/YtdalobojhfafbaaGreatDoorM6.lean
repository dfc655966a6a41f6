/- What terms are in a world: the law alone. -/
import Derived.Test.YtdalobojhfafbaaGreatDoorT1
import Derived.Test.YtdalobojhfafbaaGreatDoorT3
set_option linter.unusedVariables false
namespace Go.V
open Go
def findF (nm : ByteArray) (st : Int) : List Nv → Nat → Int
  | [], _ => -1
  | x :: r, i => if x.nm = nm ∧ x.v.sort = st then i else findF nm st r (i + 1)
def isF (v : Vl) (n : Int) : Bool := decide ((v.s.length : Int) = if v.sort = 2 then n else 0) && !(v.b && decide (v.sort ≠ 4)) && decide (v.sort = 1 ∨ (v.sort = 3 ∧ 0 ≤ v.n ∧ v.n < n) ∨ (v.sort = 2 ∧ v.n = 0) ∨ (v.sort = 4 ∧ v.n = 0))
def metB (x : Nv) (l : List Nv) : Bool := l.any fun y => decide (y.nm = x.nm) && decide (y.v.sort = x.v.sort)
def rightLW (n : Int) : List Nv → List Nv → Bool
  | _, [] => true
  | seen, x :: r => nameF x.nm.data.toList && isF x.v n && !metB x seen && rightLW n (seen ++ [x]) r
def rightW (w : Wd) : Bool := decide (1 ≤ w.nodes) && decide (w.nodes ≤ 64) && decide (w.names.length ≤ 64) && rightLW w.nodes [] w.names
def getF (l : List Nv) (nm : ByteArray) (st : Int) : Option Vl := (l.find? fun x => decide (x.nm = nm) && decide (x.v.sort = st)).map Nv.v
def getD' (l : List Nv) (nm : ByteArray) (st : Int) : D := .tuple [((getF l nm st).getD vz).d, .b (getF l nm st).isSome]
def inI (v : Int) : Bool := decide (-9223372036854775808 ≤ v) && decide (v ≤ 9223372036854775807)
def fitI (v : Int) : Int := bif inI v then v else 0
def cntF : List Bool → Int
  | [] => 0
  | x :: r => (if x then 1 else 0) + cntF r
def withinF : List Bool → List Bool → Bool
  | [], _ => true
  | x :: r, l => (!x || l.headD false) && withinF r l.tail
abbrev vI (n : Int) : Vl := ⟨1, n, false, []⟩
abbrev vS (s : List Bool) : Vl := ⟨2, 0, false, s⟩
abbrev vB (b : Bool) : Vl := ⟨4, 0, b, []⟩
def fit (v : Int) : Except Int Vl := if inI v = true then .ok (vI v) else .error 5
def nameV (w : Wd) (nm : ByteArray) (s : Int) : Except Int Vl := match getF w.names nm s with | some v => .ok v | none => .error 4
abbrev v0 (vs : List Vl) : Vl := vs.getD 0 vz
abbrev v1 (vs : List Vl) : Vl := vs.getD 1 vz
def whereF (w : Wd) (f : Nat → Bool) : Vl := vS ((List.range w.nodes.toNat).map f)
def opV (w : Wd) (op : Int) (nm : ByteArray) (n : Int) (vs : List Vl) : Except Int Vl :=
  match op.toNat with
  | 1 => .ok (vI n)
  | 2 => nameV w nm 1
  | 3 => .ok (vI (cntF (v0 vs).s))
  | 4 => fit ((v0 vs).n + (v1 vs).n)
  | 5 => fit ((v0 vs).n - (v1 vs).n)
  | 6 => fit (n * (v0 vs).n)
  | 7 => nameV w nm 2
  | 8 => .ok (whereF w fun _ => false)
  | 9 => .ok (whereF w fun _ => true)
  | 10 => .ok (whereF w fun i => decide ((i : Int) = (v0 vs).n))
  | 11 => .ok (whereF w fun i => (v0 vs).s.getD i false || (v1 vs).s.getD i false)
  | 12 => .ok (whereF w fun i => (v0 vs).s.getD i false && (v1 vs).s.getD i false)
  | 13 => .ok (whereF w fun i => (v0 vs).s.getD i false && !(v1 vs).s.getD i false)
  | 14 => nameV w nm 3
  | 15 => nameV w nm 4
  | 16 => .ok (vB true)
  | 17 => .ok (vB false)
  | 18 => .ok (vB (!(v0 vs).b))
  | 19 => .ok (vB (vs.all Vl.b))
  | 20 => .ok (vB (vs.any Vl.b))
  | 21 => .ok (vB ((v1 vs).b || !(v0 vs).b))
  | 22 => .ok (vB (decide ((v0 vs).n ≤ (v1 vs).n)))
  | 23 => .ok (vB (decide ((v0 vs).n < (v1 vs).n)))
  | 25 => .ok (vB ((v1 vs).s.getD (v0 vs).n.toNat false))
  | 26 => .ok (vB (withinF (v0 vs).s (v1 vs).s))
  | 27 => .ok (vB (decide ((v0 vs).s = (v1 vs).s)))
  | _ => .ok (vB (decide ((v0 vs).n = (v1 vs).n)))
mutual
def evV (w : Wd) : Tm → Except Int Vl
  | .mk op nm n a => match evL w a with | .error e => .error e | .ok vs => opV w op nm n vs
def evL (w : Wd) : List Tm → Except Int (List Vl)
  | [] => .ok []
  | x :: r => match evV w x with | .error e => .error e | .ok v => match evL w r with | .error e => .error e | .ok vs => .ok (v :: vs)
end
structure OkV (w : Wd) (s : Int) (v : Vl) : Prop where
  sort : v.sort = s
  len : v.s.length = if s = 2 then w.nodes.toNat else 0
  nod : s = 3 → 0 ≤ v.n ∧ v.n < w.nodes
  bol : s ≠ 4 → v.b = false
  num : s = 2 ∨ s = 4 → v.n = 0
theorem rightLW_mem {n : Int} : ∀ {l seen : List Nv}, rightLW n seen l = true → ∀ x ∈ l, nameF x.nm.data.toList = true ∧ isF x.v n = true
  | x :: r, seen, h, y, hy => by
    rw [rightLW] at h
    simp only [Bool.and_eq_true] at h
    rcases List.mem_cons.1 hy with rfl | hy
    · exact ⟨h.1.1.1, h.1.1.2⟩
    · exact rightLW_mem h.2 y hy
theorem rightW_spec {w : Wd} (h : rightW w = true) : 1 ≤ w.nodes ∧ w.nodes ≤ 64 ∧ w.names.length ≤ 64 ∧ rightLW w.nodes [] w.names = true := by
  unfold rightW at h
  simp only [Bool.and_eq_true, decide_eq_true_eq] at h
  exact ⟨h.1.1.1, h.1.1.2, h.1.2, h.2⟩
theorem isF_ok {w : Wd} {v : Vl} (h1 : 1 ≤ w.nodes) (h : isF v w.nodes = true) : OkV w v.sort v ∧ (v.sort = 1 ∨ v.sort = 2 ∨ v.sort = 3 ∨ v.sort = 4) := by
  unfold isF at h
  simp only [Bool.and_eq_true, decide_eq_true_eq, Bool.not_eq_true', Bool.and_eq_false_iff, decide_eq_false_iff_not, Decidable.not_not] at h
  obtain ⟨⟨h2, h3⟩, h4⟩ := h
  refine ⟨⟨rfl, ?_, ?_, ?_, ?_⟩, by omega⟩
  · split at h2
    · rename_i hs; rw [if_pos hs]; omega
    · rename_i hs; rw [if_neg hs]; omega
  · intro hs; omega
  · intro hs; exact h3.resolve_right hs
  · intro hs; omega
theorem getF_mem {l : List Nv} {nm : ByteArray} {s : Int} {v : Vl} (h : getF l nm s = some v) : ∃ x ∈ l, x.v = v ∧ x.nm = nm ∧ v.sort = s := by
  unfold getF at h
  obtain ⟨x, hx, rfl⟩ := Option.map_eq_some_iff.1 h
  have h1 := List.find?_some hx
  simp only [Bool.and_eq_true, decide_eq_true_eq] at h1
  exact ⟨x, List.mem_of_find?_eq_some hx, rfl, h1.1, h1.2⟩
theorem nameV_ok {w : Wd} {nm : ByteArray} {s : Int} {v : Vl} (hw : rightW w = true) (h : nameV w nm s = .ok v) : OkV w s v := by
  unfold nameV at h
  split at h
  · rename_i u hu
    injection h with h
    subst h
    obtain ⟨x, hx, rfl, _, hs⟩ := getF_mem hu
    obtain ⟨h1, _, _, h4⟩ := rightW_spec hw
    have := (isF_ok h1 (rightLW_mem h4 x hx).2).1
    rw [hs] at this
    exact this
  · cases h
theorem whereF_ok (w : Wd) (f : Nat → Bool) : OkV w 2 (whereF w f) := ⟨rfl, by simp [whereF], fun h => (by cases h), fun _ => rfl, fun _ => rfl⟩
theorem vI_ok (w : Wd) (n : Int) : OkV w 1 (vI n) := ⟨rfl, rfl, fun h => (by cases h), fun _ => rfl, fun h => (by omega)⟩
theorem vB_ok (w : Wd) (b : Bool) : OkV w 4 (vB b) := ⟨rfl, rfl, fun h => (by cases h), fun h => absurd rfl h, fun _ => rfl⟩
theorem fit_ok {w : Wd} {n : Int} {v : Vl} (h : fit n = .ok v) : OkV w 1 v ∧ v = vI n ∧ inI n = true := by
  unfold fit at h
  split at h
  · injection h with h; subst h; exact ⟨vI_ok w n, rfl, by assumption⟩
  · cases h
theorem opV_ok {w : Wd} {op : Int} {nm : ByteArray} {n : Int} {vs : List Vl} {v : Vl} (hw : rightW w = true) (h1 : 1 ≤ op) (h2 : op ≤ 28) (h : opV w op nm n vs = .ok v) : OkV w (shpAt op).sort v := by
  have hop : ∃ i : Fin 29, op = (i.1 : Int) := ⟨⟨op.toNat, by omega⟩, by simp only; omega⟩
  obtain ⟨i, rfl⟩ := hop
  unfold opV at h
  rw [Int.toNat_natCast] at h
  revert h1 h
  match i with
  | ⟨0, _⟩ => intro h1; simp at h1
  | ⟨1, _⟩ => intro _ h; injection h with h; subst h; exact vI_ok w n
  | ⟨2, _⟩ => intro _ h; exact nameV_ok hw h
  | ⟨3, _⟩ => intro _ h; injection h with h; subst h; exact vI_ok w _
  | ⟨4, _⟩ => intro _ h; exact (fit_ok h).1
  | ⟨5, _⟩ => intro _ h; exact (fit_ok h).1
  | ⟨6, _⟩ => intro _ h; exact (fit_ok h).1
  | ⟨7, _⟩ => intro _ h; exact nameV_ok hw h
  | ⟨8, _⟩ => intro _ h; injection h with h; subst h; exact whereF_ok w _
  | ⟨9, _⟩ => intro _ h; injection h with h; subst h; exact whereF_ok w _
  | ⟨10, _⟩ => intro _ h; injection h with h; subst h; exact whereF_ok w _
  | ⟨11, _⟩ => intro _ h; injection h with h; subst h; exact whereF_ok w _
  | ⟨12, _⟩ => intro _ h; injection h with h; subst h; exact whereF_ok w _
  | ⟨13, _⟩ => intro _ h; injection h with h; subst h; exact whereF_ok w _
  | ⟨14, _⟩ => intro _ h; exact nameV_ok hw h
  | ⟨15, _⟩ => intro _ h; exact nameV_ok hw h
  | ⟨16, _⟩ => intro _ h; injection h with h; subst h; exact vB_ok w _
  | ⟨17, _⟩ => intro _ h; injection h with h; subst h; exact vB_ok w _
  | ⟨18, _⟩ => intro _ h; injection h with h; subst h; exact vB_ok w _
  | ⟨19, _⟩ => intro _ h; injection h with h; subst h; exact vB_ok w _
  | ⟨20, _⟩ => intro _ h; injection h with h; subst h; exact vB_ok w _
  | ⟨21, _⟩ => intro _ h; injection h with h; subst h; exact vB_ok w _
  | ⟨22, _⟩ => intro _ h; injection h with h; subst h; exact vB_ok w _
  | ⟨23, _⟩ => intro _ h; injection h with h; subst h; exact vB_ok w _
  | ⟨24, _⟩ => intro _ h; injection h with h; subst h; exact vB_ok w _
  | ⟨25, _⟩ => intro _ h; injection h with h; subst h; exact vB_ok w _
  | ⟨26, _⟩ => intro _ h; injection h with h; subst h; exact vB_ok w _
  | ⟨27, _⟩ => intro _ h; injection h with h; subst h; exact vB_ok w _
  | ⟨28, _⟩ => intro _ h; injection h with h; subst h; exact vB_ok w _
theorem evV_eq (w : Wd) (op : Int) (nm : ByteArray) (n : Int) (a : List Tm) : evV w (.mk op nm n a) = match evL w a with | .error e => .error e | .ok vs => opV w op nm n vs := by rw [evV]
theorem evV_ok {w : Wd} {t : Tm} {s : Int} {v : Vl} (hw : rightW w = true) (ht : rightT t s = true) (hs : s ≠ 0) (h : evV w t = .ok v) : OkV w s v := by
  have h1 := right_sort ht hs
  rw [right_iff] at ht
  cases t with | mk op nm n a =>
  rw [evV_eq] at h
  split at h
  · cases h
  · rw [← h1]; exact opV_ok hw ht.op1 ht.op2 h
theorem evL0 (w : Wd) : evL w [] = .ok [] := by rw [evL]
theorem evL1 (w : Wd) (x : Tm) : evL w [x] = match evV w x with | .error e => .error e | .ok v => .ok [v] := by
  rw [evL, evL]
theorem evL2 (w : Wd) (x y : Tm) : evL w [x, y] = match evV w x with | .error e => .error e | .ok v => match evV w y with | .error e => .error e | .ok u => .ok [v, u] := by
  rw [evL, evL1]
  cases evV w x with
  | error e => rfl
  | ok v => cases evV w y <;> rfl
theorem evL_cons (w : Wd) (x : Tm) (r : List Tm) : evL w (x :: r) = match evV w x with | .error e => .error e | .ok v => match evL w r with | .error e => .error e | .ok vs => .ok (v :: vs) := by rw [evL]
theorem kid_sort {t : Tm} {s : Int} (ht : rightT t s = true) (hs : s ≠ 0) (i : Nat) (hi : i < t.a.length) : (shpAt t.op).a.getD (bif (shpAt t.op).many then 0 else i) 0 ≠ 0 := by
  have h := (right_iff t s).1 ht
  have hop : ∃ k : Fin 29, t.op = (k.1 : Int) := ⟨⟨t.op.toNat, by have := h.op1; have := h.op2; omega⟩, by have := h.op1; simp only; omega⟩
  obtain ⟨k, hk⟩ := hop
  have h1 := h.op1
  have hl := h.len
  rw [hk] at h1 hl ⊢
  have key : ∀ k : Fin 29, 1 ≤ k.1 → ∀ j : Fin 3, ((shpAt (k.1 : Int)).many = true ∨ j.1 < (shpAt (k.1 : Int)).a.length) → (shpAt (k.1 : Int)).a.getD (bif (shpAt (k.1 : Int)).many then 0 else j.1) 0 ≠ 0 := by decide
  cases hm : (shpAt (k.1 : Int)).many with
  | true =>
    have := key k (by omega) ⟨0, by decide⟩ (.inl hm)
    rw [hm] at this
    exact this
  | false =>
    have hl := hl hm
    have h2 : ∀ k : Fin 29, (shpAt (k.1 : Int)).a.length ≤ 2 := by decide
    have h3 := h2 k
    have := key k (by omega) ⟨i, by omega⟩ (.inr (by simp only; omega))
    rw [hm] at this
    exact this
end Go.V
set_option linter.unusedVariables false
namespace Go.V
open Go
section
variable {w : Wd}
theorem ev_mk (op : Int) (a : List Tm) : evV w (mk op a) = match evL w a with | .error e => .error e | .ok vs => opV w op ⟨#[]⟩ 0 vs := evV_eq w op _ _ a
theorem map_id (o : Option Bool) : o.map (xor false ·) = o := by cases o <;> simp
theorem opV_err {op : Int} {nm : ByteArray} {n : Int} {vs : List Vl} {e : Int} (h : opV w op nm n vs = .error e) : e = 4 ∨ e = 5 := by
  have hn : ∀ s, nameV w nm s = .error e → e = 4 ∨ e = 5 := by
    intro s h
    unfold nameV at h
    split at h
    · cases h
    · injection h with h; exact .inl h.symm
  have hf : ∀ v, fit v = .error e → e = 4 ∨ e = 5 := by
    intro v h
    unfold fit at h
    split at h
    · cases h
    · injection h with h; exact .inr h.symm
  unfold opV at h
  split at h
  all_goals first | exact hn _ h | exact hf _ h | cases h
theorem evV_err (t : Tm) : ∀ e, evV w t = .error e → e = 4 ∨ e = 5 := by
  induction t using Tm.ind' with
  | h t ih =>
    intro e h
    cases t with | mk op nm n a =>
    simp only [Tm.a] at ih
    rw [evV_eq] at h
    have hl : ∀ (l : List Tm), (∀ x ∈ l, x ∈ a) → ∀ e, evL w l = .error e → e = 4 ∨ e = 5 := by
      intro l
      induction l with
      | nil => intro _ e h; rw [evL0] at h; cases h
      | cons x r ihr =>
        intro hm e h
        rw [evL_cons] at h
        split at h
        · next h1 => injection h with h; subst h; exact ih x (hm x (by simp)) _ h1
        · split at h
          · next h1 => injection h with h; subst h; exact ihr (fun y hy => hm y (by simp [hy])) _ h1
          · cases h
    split at h
    · next h1 => injection h with h; subst h; exact hl a (fun _ h => h) _ h1
    · exact opV_err h
end
end Go.V
