/- Contracts: the law TermNames. -/
import Derived.Test.YtaigilchnadmpaaGreatDoorC15
import Derived.Test.YtaigilchnadmpaaGreatDoorN1
set_option maxRecDepth 100000
set_option linter.unusedVariables false
namespace Go.Proofs.YtaigilchnadmpaaGreatDoor
open Go Go.V
theorem Nm.a_s1 {x : Nm} {k : D → Prop} (h : k (.s (str x.1))) {L : List Bx} : ald1 (.pin (List.drop 1 (Nm.tm x).cs)) L k := h
theorem Nm.a_idxZ {l : List Nm} {ki : IntKind} {k : D → Prop} {j : Int} (i : Nat) (hi : i < l.length) (e : j = i) (h : k (.pin (Nm.cr l[i]))) : aidxS 5 (.row 5 (l.map Nm.cr)) (.val (.int ki j)) k := by
  subst e; exact Nm.a_idx i hi h
theorem a_gtrSf {a b : List UInt8} {k : D → Prop} (hb : bl b a = false) (h : k (.b false)) : aar .gtr (.s (str a)) (.s (str b)) k := a_gtrS (by rw [hb]; exact h)
theorem str_inj {a b : List UInt8} (h : str a = str b) : a = b := by
  have := congrArg (fun s => s.data.toList) h
  simpa [str] using this
end Go.Proofs.YtaigilchnadmpaaGreatDoor
