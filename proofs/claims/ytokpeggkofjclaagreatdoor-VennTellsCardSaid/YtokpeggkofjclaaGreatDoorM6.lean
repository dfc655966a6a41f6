/- What terms are in a world: the law alone. -/
import Derived.Test.YtokpeggkofjclaaGreatDoorT1
import Derived.Test.YtokpeggkofjclaaGreatDoorT3
set_option linter.unusedVariables false
namespace Go.V
open Go
/-- where a name stands, -1: nowhere -/
def findF (nm : ByteArray) (st : Int) : List Nv → Nat → Int
  | [], _ => -1
  | x :: r, i => if x.nm = nm ∧ x.v.sort = st then i else findF nm st r (i + 1)
def isF (v : Vl) (n : Int) : Bool := decide ((v.s.length : Int) = if v.sort = 2 then n else 0) && !(v.b && decide (v.sort ≠ 4)) && decide (v.sort = 1 ∨ (v.sort = 3 ∧ 0 ≤ v.n ∧ v.n < n) ∨ (v.sort = 2 ∧ v.n = 0) ∨ (v.sort = 4 ∧ v.n = 0))
/-- such a name has been met -/
def metB (x : Nv) (l : List Nv) : Bool := l.any fun y => decide (y.nm = x.nm) && decide (y.v.sort = x.v.sort)
def rightLW (n : Int) : List Nv → List Nv → Bool
  | _, [] => true
  | seen, x :: r => nameF x.nm.data.toList && isF x.v n && !metB x seen && rightLW n (seen ++ [x]) r
def rightW (w : Wd) : Bool := decide (1 ≤ w.nodes) && decide (w.nodes ≤ 64) && decide (w.names.length ≤ 64) && rightLW w.nodes [] w.names
def getF (l : List Nv) (nm : ByteArray) (st : Int) : Option Vl := (l.find? fun x => decide (x.nm = nm) && decide (x.v.sort = st)).map Nv.v
def getD' (l : List Nv) (nm : ByteArray) (st : Int) : D := .tuple [((getF l nm st).getD vz).d, .b (getF l nm st).isSome]
def inI (v : Int) : Bool := decide (-9223372036854775808 ≤ v) && decide (v ≤ 9223372036854775807)
def fitI (v : Int) : Int := bif inI v then v else 0
def cntF : List Bool → Int
  | [] => 0
  | x :: r => (if x then 1 else 0) + cntF r
abbrev vI (n : Int) : Vl := ⟨1, n, false, []⟩
def fit (v : Int) : Except Int Vl := if inI v = true then .ok (vI v) else .error 5
def nameV (w : Wd) (nm : ByteArray) (s : Int) : Except Int Vl := match getF w.names nm s with | some v => .ok v | none => .error 4
abbrev v0 (vs : List Vl) : Vl := vs.getD 0 vz
abbrev v1 (vs : List Vl) : Vl := vs.getD 1 vz
structure OkV (w : Wd) (s : Int) (v : Vl) : Prop where
  sort : v.sort = s
  len : v.s.length = if s = 2 then w.nodes.toNat else 0
  nod : s = 3 → 0 ≤ v.n ∧ v.n < w.nodes
  bol : s ≠ 4 → v.b = false
  num : s = 2 ∨ s = 4 → v.n = 0
theorem rightLW_mem {n : Int} : ∀ {l seen : List Nv}, rightLW n seen l = true → ∀ x ∈ l, nameF x.nm.data.toList = true ∧ isF x.v n = true
  | x :: r, seen, h, y, hy => by
    rw [rightLW] at h
    simp only [Bool.and_eq_true] at h
    rcases List.mem_cons.1 hy with rfl | hy
    · exact ⟨h.1.1.1, h.1.1.2⟩
    · exact rightLW_mem h.2 y hy
theorem rightW_spec {w : Wd} (h : rightW w = true) : 1 ≤ w.nodes ∧ w.nodes ≤ 64 ∧ w.names.length ≤ 64 ∧ rightLW w.nodes [] w.names = true := by
  unfold rightW at h
  simp only [Bool.and_eq_true, decide_eq_true_eq] at h
  exact ⟨h.1.1.1, h.1.1.2, h.1.2, h.2⟩
theorem isF_ok {w : Wd} {v : Vl} (h1 : 1 ≤ w.nodes) (h : isF v w.nodes = true) : OkV w v.sort v ∧ (v.sort = 1 ∨ v.sort = 2 ∨ v.sort = 3 ∨ v.sort = 4) := by
  unfold isF at h
  simp only [Bool.and_eq_true, decide_eq_true_eq, Bool.not_eq_true', Bool.and_eq_false_iff, decide_eq_false_iff_not, Decidable.not_not] at h
  obtain ⟨⟨h2, h3⟩, h4⟩ := h
  refine ⟨⟨rfl, ?_, ?_, ?_, ?_⟩, by omega⟩
  · split at h2
    · rename_i hs; rw [if_pos hs]; omega
    · rename_i hs; rw [if_neg hs]; omega
  · intro hs; omega
  · intro hs; exact h3.resolve_right hs
  · intro hs; omega
theorem getF_mem {l : List Nv} {nm : ByteArray} {s : Int} {v : Vl} (h : getF l nm s = some v) : ∃ x ∈ l, x.v = v ∧ x.nm = nm ∧ v.sort = s := by
  unfold getF at h
  obtain ⟨x, hx, rfl⟩ := Option.map_eq_some_iff.1 h
  have h1 := List.find?_some hx
  simp only [Bool.and_eq_true, decide_eq_true_eq] at h1
  exact ⟨x, List.mem_of_find?_eq_some hx, rfl, h1.1, h1.2⟩
theorem nameV_ok {w : Wd} {nm : ByteArray} {s : Int} {v : Vl} (hw : rightW w = true) (h : nameV w nm s = .ok v) : OkV w s v := by
  unfold nameV at h
  split at h
  · rename_i u hu
    injection h with h
    subst h
    obtain ⟨x, hx, rfl, _, hs⟩ := getF_mem hu
    obtain ⟨h1, _, _, h4⟩ := rightW_spec hw
    have := (isF_ok h1 (rightLW_mem h4 x hx).2).1
    rw [hs] at this
    exact this
  · cases h
end Go.V
/- What norm makes has the same value: the law alone. -/
set_option linter.unusedVariables false
namespace Go.V
open Go
section
variable {w : Wd}
end
end Go.V
