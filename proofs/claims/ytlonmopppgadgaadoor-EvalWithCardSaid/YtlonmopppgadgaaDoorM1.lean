/- Which terms are right, as plain functions; the table of operations, as it lies in memory. -/
import Derived.Test.YtlonmopppgadgaaDoorS3
import Derived.Test.YtlonmopppgadgaaDoorM2
import Derived.Lib.Bytealg
set_option linter.unusedVariables false
namespace Go.V
def letters : List UInt8 := [65, 66, 67, 68, 69, 70, 71, 72, 73, 74, 75, 76, 77, 78, 79, 80, 81, 82, 83, 84, 85, 86, 87, 88, 89, 90, 97, 98, 99, 100, 101, 102, 103, 104, 105, 106, 107, 108, 109, 110, 111, 112, 113, 114, 115, 116, 117, 118, 119, 120, 121, 122]
def chars : List UInt8 := [65, 66, 67, 68, 69, 70, 71, 72, 73, 74, 75, 76, 77, 78, 79, 80, 81, 82, 83, 84, 85, 86, 87, 88, 89, 90, 97, 98, 99, 100, 101, 102, 103, 104, 105, 106, 107, 108, 109, 110, 111, 112, 113, 114, 115, 116, 117, 118, 119, 120, 121, 122, 48, 49, 50, 51, 52, 53, 54, 55, 56, 57, 95]
def trimL (c l : List UInt8) : List UInt8 := (l.reverse.dropWhile (inS c)).reverse.dropWhile (inS c)
/-- is a text a name? -/
def nameF : List UInt8 → Bool
  | [] => false
  | x :: r => decide ((x :: r).length ≤ 16) && decide (0 ≤ Lib.indexByte letters x) && decide (trimL chars (x :: r) = [])
structure Shp where
  sort : Int
  name : Bool
  number : Bool
  a : List Int
  many : Bool
def shp : List Shp :=
  [⟨0, false, false, [], false⟩, ⟨1, false, true, [], false⟩, ⟨1, true, false, [], false⟩, ⟨1, false, false, [2], false⟩, ⟨1, false, false, [1, 1], false⟩, ⟨1, false, false, [1, 1], false⟩, ⟨1, false, true, [1], false⟩,
   ⟨2, true, false, [], false⟩, ⟨2, false, false, [], false⟩, ⟨2, false, false, [], false⟩, ⟨2, false, false, [3], false⟩, ⟨2, false, false, [2, 2], false⟩, ⟨2, false, false, [2, 2], false⟩, ⟨2, false, false, [2, 2], false⟩,
   ⟨3, true, false, [], false⟩, ⟨4, true, false, [], false⟩, ⟨4, false, false, [], false⟩, ⟨4, false, false, [], false⟩, ⟨4, false, false, [4], false⟩, ⟨4, false, false, [4], true⟩, ⟨4, false, false, [4], true⟩, ⟨4, false, false, [4, 4], false⟩,
   ⟨4, false, false, [1, 1], false⟩, ⟨4, false, false, [1, 1], false⟩, ⟨4, false, false, [1, 1], false⟩, ⟨4, false, false, [3, 2], false⟩, ⟨4, false, false, [2, 2], false⟩, ⟨4, false, false, [2, 2], false⟩, ⟨4, false, false, [3, 3], false⟩]
def shA (a : List Int) : D := match a with | [] => .nil | a => .row 1 (a.map fun x => [.i x])
def Shp.cs (s : Shp) : List D := [.i s.sort, .b s.name, .b s.number, shA s.a, .b s.many]
/-- the table, as data -/
def tabD : List D := shp.flatMap Shp.cs
def shpAt (op : Int) : Shp := shp.getD op.toNat ⟨0, false, false, [], false⟩
/-- is a term's own word not right? -/
def badHead (S : Shp) (nm : ByteArray) (n : Int) (len : Nat) (m : Int) : Bool :=
  (decide (m ≠ 0) && decide (S.sort ≠ m)) || (S.name && !nameF nm.data.toList) || (!S.name && decide (nm ≠ ⟨#[]⟩)) || (!S.number && decide (n ≠ 0)) || (!S.many && decide ((len : Int) ≠ S.a.length))
mutual
def rightT : Tm → Int → Bool
  | .mk op nm n a, m => decide (1 ≤ op) && decide (op ≤ 28) && !badHead (shpAt op) nm n a.length m && rightL (shpAt op) a 0
def rightL : Shp → List Tm → Nat → Bool
  | _, [], _ => true
  | S, x :: r, i => rightT x (S.a.getD (bif S.many then 0 else i) 0) && rightL S r (i + 1)
end
theorem rightT_eq (t : Tm) (m : Int) : rightT t m = (decide (1 ≤ t.op) && decide (t.op ≤ 28) && !badHead (shpAt t.op) t.nm t.n t.a.length m && rightL (shpAt t.op) t.a 0) := by cases t; rw [rightT]; rfl

theorem shp_many (op : Int) : (shpAt op).many = true → (shpAt op).a.length = 1 := by
  unfold shpAt
  intro h
  by_cases hlt : op.toNat < shp.length
  · have : ∀ i : Fin 29, (shp.getD i.1 ⟨0, false, false, [], false⟩).many = true → (shp.getD i.1 ⟨0, false, false, [], false⟩).a.length = 1 := by decide
    exact this ⟨op.toNat, hlt⟩ h
  · rw [List.getD_eq_getElem?_getD, List.getElem?_eq_none (by omega)] at h
    exact absurd h (by simp)
theorem flat_drop : ∀ (l : List Shp) (i : Nat) (h : i < l.length), ((l.flatMap Shp.cs).drop (i * 5)).take 5 = l[i].cs
  | s :: r, 0, _ => rfl
  | s :: r, i + 1, h => by
    rw [List.flatMap_cons]
    have e : (i + 1) * 5 = s.cs.length + i * 5 := by show (i + 1) * 5 = 5 + i * 5; omega
    rw [e, List.drop_append, List.drop_eq_nil_of_le (by omega), List.nil_append, show s.cs.length + i * 5 - s.cs.length = i * 5 by omega]
    exact flat_drop r i (by simpa using h)
theorem tab_at {op : Int} (h1 : 1 ≤ op) (h2 : op ≤ 28) : (tabD.drop (0 + op.toNat * 5)).take 5 = (shpAt op).cs := by
  have hlt : op.toNat < shp.length := by show op.toNat < 29; omega
  rw [Nat.zero_add]
  have := flat_drop shp op.toNat hlt
  unfold tabD
  rw [this]
  simp [shpAt, hlt]
theorem tab_sort {op : Int} (h1 : 1 ≤ op) (h2 : op ≤ 28) : tabD[0 + op.toNat * 5 + 0]? = some (.i (shpAt op).sort) := by
  have := congrArg (fun l => l[0]?) (tab_at h1 h2)
  simpa [List.getElem?_drop, Shp.cs] using this
theorem shA_one (a : List Int) : (shA a).one = true := by cases a <;> rfl
theorem Shp.cs_one (s : Shp) : s.cs.all D.one = true := by
  have := shA_one s.a
  unfold Shp.cs
  rw [List.all_cons, List.all_cons, List.all_cons, List.all_cons, this]; rfl
theorem a_lenA {a : List Int} {k : D → Prop} (h : k (.i a.length)) : alenL (shA a) k := by
  cases a with
  | nil => exact h
  | cons x r => show k (.i (List.length _)); rw [List.length_map]; exact h
theorem a_idxA {a : List Int} {ki : IntKind} {k : D → Prop} (i : Nat) (hi : i < a.length) (h : k (.pin [.i a[i]])) : aidxS 1 (shA a) (.val (.int ki i)) k := by
  cases a with
  | nil => exact absurd hi (Nat.not_lt_zero _)
  | cons x r => exact V.a_idx i _ (by rw [List.getElem?_map, List.getElem?_eq_getElem hi]; rfl) h
/-- Sort: the sort, the error -/
def sortF (t : Tm) : Int × Int :=
  if (ofT t 1 0 0).1 > 2000 ∨ (ofT t 1 0 0).2 > 100 then (0, 7) else if rightT t 0 then ((shpAt t.op).sort, 0) else (0, 3)
end Go.V
