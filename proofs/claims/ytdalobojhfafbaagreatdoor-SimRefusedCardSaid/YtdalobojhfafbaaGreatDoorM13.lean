/- What is put in the place of names: the plain function, and the one that counts as it goes. -/
import Derived.Test.YtdalobojhfafbaaGreatDoorN4
set_option linter.unusedVariables false
namespace Go.V
open Go
/-- a name that becomes a term -/
structure As where
  nm : ByteArray
  to : Tm
def As.cr (x : As) : List D := .s x.nm :: x.to.cs
theorem As.cr_len (x : As) : x.cr.length = 5 := rfl
theorem As.cr_one (x : As) : x.cr.all D.one = true := rfl
def Nm.as (x : Nm) : As := ⟨str x.1, Nm.tm x⟩
structure CpSays (p : Tm) (c : Int) (r : Tm × Int) : Prop where
  size : r.2 = c + r.1.size
  most : r.2 ≤ 2001
  small : r.2 ≤ 2000 → r.1 = p
  large : 2000 < r.2 → 2000 < c + p.size
end Go.V
/- Laws of what is put: nothing, names for themselves, numbers for names, twice. -/
set_option linter.unusedVariables false
namespace Go.V
open Go
theorem Nm.sort {x : Nm} (hr : rightT (Nm.tm x) 0 = true) : sortF (Nm.tm x) = ((shpAt x.2).sort, 0) := by
  rw [sortF_eq, if_neg (by rw [Nm.tm_size, Nm.tm_dep]; omega), if_pos hr]; rfl
structure OneSays (nm : ByteArray) (t u : Tm) : Prop where
  size : u.size = t.size
  dep : u.dep = t.dep
  coll : ∀ x : Nm, x ∈ collT u ↔ x ∈ collT t ∧ ¬ (str x.1 = nm ∧ x.2 ≠ 14)
end Go.V
/- Fresh names. -/
set_option linter.unusedVariables false
namespace Go.V
open Go
end Go.V
