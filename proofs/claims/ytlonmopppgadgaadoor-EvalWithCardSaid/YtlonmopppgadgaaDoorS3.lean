/- Texts; tables of bytes. -/
import Derived.Test.YtlonmopppgadgaaDoorT0
set_option linter.unusedVariables false
namespace Go.V
open Go
def str (l : List UInt8) : ByteArray := ⟨l.toArray⟩
theorem str_of (s : ByteArray) : s = str s.data.toList := by cases s; simp [str]
theorem str_size (l : List UInt8) : (str l).size = l.length := by simp [str, ByteArray.size]
theorem str_inj {l m : List UInt8} (h : str l = str m) : l = m := by
  have := congrArg (fun s => s.data.toList) h
  simpa [str] using this
theorem str_nil : (⟨#[]⟩ : ByteArray) = str [] := rfl
theorem str_get (l : List UInt8) (i : Nat) : (str l)[i]? = l[i]? := by
  by_cases h : i < l.length
  · have h' : i < (str l).size := by rw [str_size]; exact h
    rw [getElem?_pos (str l) i h', List.getElem?_eq_getElem h]
    congr 1
  · have h' : ¬ i < (str l).size := by rw [str_size]; exact h
    rw [getElem?_neg (str l) i h', List.getElem?_eq_none (by omega)]
theorem str_extract (l : List UInt8) (a b : Nat) : (str l).extract a b = str ((l.take b).drop a) := by
  rw [str_of ((str l).extract a b)]
  congr 1
  simp [str, ByteArray.data_extract]
  rw [List.drop_take]
variable {k : D → Prop}
theorem a_idxStr {l : List UInt8} {ki : IntKind} {c : UInt8} (i : Nat) (hc : l[i]? = some c) (h : k (.val (.int .u8 c.toNat))) : aidxStr (.s (str l)) (.val (.int ki i)) k := by
  show _ ∧ ∃ _, _
  exact ⟨by omega, c, by rw [str_get]; simpa using hc, h⟩
theorem a_slcSf {l : List UInt8} {ki : IntKind} (i : Nat) (hi : i ≤ l.length) (h : k (.s (str (l.drop i)))) : aslcS (.s (str l)) (some (.val (.int ki i))) none k := by
  show ∃ _ _, _
  exact ⟨i, (str l).size, rfl, ⟨ki, rfl⟩, by rw [str_size]; exact hi, by rw [str_extract, str_size, List.take_length]; exact h⟩
theorem a_slcSt {l : List UInt8} {ki : IntKind} (i : Nat) (hi : i ≤ l.length) (h : k (.s (str (l.take i)))) : aslcS (.s (str l)) none (some (.val (.int ki i))) k := by
  show ∃ _ _, _
  exact ⟨0, i, ⟨ki, rfl, by rw [str_size]; exact hi⟩, rfl, Nat.zero_le _, by rw [str_extract, List.drop_zero]; exact h⟩
theorem a_lenStr {l : List UInt8} (h : k (.i l.length)) : alenS (.s (str l)) k := by
  show k (.i (str l).size); rw [str_size]; exact h
/-! ### a table of bytes -/
def inS (l : List UInt8) (x : UInt8) : Bool := l.any fun b => b.toNat == x.toNat
def tabOf (l : List UInt8) : List D := (List.range 256).map fun i => .b (l.any fun b => b.toNat == i)
theorem tabOf_len (l : List UInt8) : (tabOf l).length = 256 := by simp [tabOf]
theorem tabOf_get (l : List UInt8) (x : UInt8) : (tabOf l)[x.toNat]? = some (.b (inS l x)) := by
  have := x.toNat_lt
  simp [tabOf, inS, this]
theorem tabOf_nil : tabOf [] = vals (reps 256 [.bool false]) := by kernel_rfl
theorem tabOf_ones (l : List UInt8) : (tabOf l).all D.one = true := by simp only [tabOf, List.all_map, List.all_eq_true]; intro i _; rfl
theorem tabOf_put (l : List UInt8) (x : UInt8) : (tabOf l).take x.toNat ++ [.b true] ++ (tabOf l).drop (x.toNat + 1) = tabOf (l ++ [x]) := by
  have hx := x.toNat_lt
  apply List.ext_getElem
  · simp [tabOf_len]; omega
  · intro i h1 h2
    have hi : i < 256 := by simpa [tabOf_len] using h2
    by_cases e : i < x.toNat
    · rw [List.getElem_append_left (by simp [tabOf_len]; omega), List.getElem_append_left (by simp [tabOf_len]; omega)]
      have : ¬ x.toNat = i := by omega
      simp [tabOf, this]
    · by_cases e' : i = x.toNat
      · subst e'
        rw [List.getElem_append_left (by simp [tabOf_len]; omega), List.getElem_append_right (by simp [tabOf_len]; omega)]
        simp [tabOf]
      · rw [List.getElem_append_right (by simp [tabOf_len]; omega)]
        have : ¬ x.toNat = i := by omega
        have e2 : x.toNat + 1 + (i - (min x.toNat 256 + 1)) = i := by omega
        simp [tabOf, this, e2]
end Go.V
