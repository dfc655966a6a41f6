/- Contracts: Same. -/
import Derived.Test.YtokpeggkofjclaaGreatDoorC14
import Derived.Test.YtokpeggkofjclaaGreatDoorC10
import Derived.Test.YtokpeggkofjclaaGreatDoorW4
import Derived.Test.YtokpeggkofjclaaGreatDoorN4
set_option maxRecDepth 100000
set_option linter.unusedVariables false
namespace Go.Proofs.YtokpeggkofjclaaGreatDoor
open Go Go.V
theorem Nm.a_idx {l : List Nm} {ki : IntKind} {k : D → Prop} (i : Nat) (hi : i < l.length) (h : k (.pin (Nm.cr l[i]))) : aidxS 5 (.row 5 (l.map Nm.cr)) (.val (.int ki i)) k :=
  V.a_idx i _ (by rw [List.getElem?_map, List.getElem?_eq_getElem hi]; rfl) h
theorem Nm.a_f0 {x : Nm} {k : D → Prop} (h : k (.pin (Nm.cr x))) : afld 0 (.pin (Nm.cr x)) k := h
theorem Nm.a_f1 {x : Nm} {k : D → Prop} (h : k (.pin (Nm.tm x).cs)) : afld 1 (.pin (Nm.cr x)) k := h
theorem Nm.a_ld {x : Nm} {L : List Bx} {k : D → Prop} (h : k (.s (str x.1))) : ald1 (.pin (Nm.cr x)) L k := h
end Go.Proofs.YtokpeggkofjclaaGreatDoor
/- Contracts: the law TermNames. -/
set_option maxRecDepth 100000
set_option linter.unusedVariables false
namespace Go.Proofs.YtokpeggkofjclaaGreatDoor
open Go Go.V
theorem str_inj {a b : List UInt8} (h : str a = str b) : a = b := by
  have := congrArg (fun s => s.data.toList) h
  simpa [str] using this
end Go.Proofs.YtokpeggkofjclaaGreatDoor
