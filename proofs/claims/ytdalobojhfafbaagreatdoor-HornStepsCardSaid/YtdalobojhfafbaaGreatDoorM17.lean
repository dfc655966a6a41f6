/- Circles, regions, rows: what layer 13 reckons with. -/
import Derived.Test.YtdalobojhfafbaaGreatDoorM13
import Derived.Test.YtdalobojhfafbaaGreatDoorM6
set_option linter.unusedVariables false
namespace Go.V
open Go
def sD (l : List ByteArray) : List (List D) := l.map fun s => [.s s]
def nD (l : List Int) : List (List D) := l.map fun n => [.i n]
structure Pl where
  sets : List ByteArray
  nodes : List ByteArray
  ints : List ByteArray
def Pl.cs (p : Pl) : List D := [.row 1 (sD p.sets), .row 1 (sD p.nodes), .row 1 (sD p.ints)]
def Pl.d (p : Pl) : D := .agg p.cs
theorem Pl.cs_len (p : Pl) : p.cs.length = 3 := rfl
theorem Pl.cs_one (p : Pl) : p.cs.all D.one = true := rfl
structure Rw where
  c : List Int
  k : Int
def Rw.cs (r : Rw) : List D := [.row 1 (nD r.c), .i r.k]
def Rw.d (r : Rw) : D := .agg r.cs
theorem Rw.cs_len (r : Rw) : r.cs.length = 2 := rfl
theorem Rw.cs_one (r : Rw) : r.cs.all D.one = true := rfl
def atS (s : ByteArray) : List ByteArray → Nat → Int
  | [], _ => -1
  | x :: r, i => if x = s then (i : Int) else atS s r (i + 1)
theorem atS_cases (s : ByteArray) : ∀ (l : List ByteArray) (i : Nat), (atS s l i = -1 ∧ s ∉ l) ∨ ∃ j, atS s l i = ((i + j : Nat) : Int) ∧ l[j]? = some s
  | [], i => .inl ⟨rfl, by simp⟩
  | x :: r, i => by
    rw [atS]
    by_cases h : x = s
    · rw [if_pos h]; exact .inr ⟨0, rfl, by rw [h]; rfl⟩
    · rw [if_neg h]
      rcases atS_cases s r (i + 1) with ⟨h1, h2⟩ | ⟨j, h1, h2⟩
      · exact .inl ⟨h1, by simp only [List.mem_cons, not_or]; exact ⟨fun e => h e.symm, h2⟩⟩
      · exact .inr ⟨j + 1, by rw [h1]; congr 1; omega, h2⟩
end Go.V
