/- Contracts: Same. -/
import Derived.Test.YtaigilchnadmpaaGreatDoorC14
import Derived.Test.YtaigilchnadmpaaGreatDoorC10
import Derived.Test.YtaigilchnadmpaaGreatDoorW3
set_option maxRecDepth 100000
set_option linter.unusedVariables false
namespace Go.Proofs.YtaigilchnadmpaaGreatDoor
open Go Go.V
theorem Nm.a_idx {l : List Nm} {ki : IntKind} {k : D → Prop} (i : Nat) (hi : i < l.length) (h : k (.pin (Nm.cr l[i]))) : aidxS 5 (.row 5 (l.map Nm.cr)) (.val (.int ki i)) k :=
  V.a_idx i _ (by rw [List.getElem?_map, List.getElem?_eq_getElem hi]; rfl) h
theorem Nm.a_f0 {x : Nm} {k : D → Prop} (h : k (.pin (Nm.cr x))) : afld 0 (.pin (Nm.cr x)) k := h
theorem Nm.a_f1 {x : Nm} {k : D → Prop} (h : k (.pin (Nm.tm x).cs)) : afld 1 (.pin (Nm.cr x)) k := h
theorem Nm.a_ld {x : Nm} {L : List Bx} {k : D → Prop} (h : k (.s (str x.1))) : ald1 (.pin (Nm.cr x)) L k := h
theorem names_shown : NamesF (Tm.mk 22 ⟨#[]⟩ 0 [Tm.mk 1 ⟨#[]⟩ 1 [], Tm.mk 3 ⟨#[]⟩ 0 [Tm.mk 7 ⟨#[97]⟩ 0 []]]) = [([97], 7)] := by
  have e1 : sortF (Tm.mk 22 ⟨#[]⟩ 0 [Tm.mk 1 ⟨#[]⟩ 1 [], Tm.mk 3 ⟨#[]⟩ 0 [Tm.mk 7 ⟨#[97]⟩ 0 []]]) = (4, 0) := by kernel_rfl
  have e2 : collT (Tm.mk 22 ⟨#[]⟩ 0 [Tm.mk 1 ⟨#[]⟩ 1 [], Tm.mk 3 ⟨#[]⟩ 0 [Tm.mk 7 ⟨#[97]⟩ 0 []]]) = [([97], 7)] := by kernel_rfl
  unfold NamesF namesT
  rw [e1, e2]
  simp [sortN, compactN]
end Go.Proofs.YtaigilchnadmpaaGreatDoor
