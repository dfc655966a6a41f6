/- What must hold ahead of a call, function by function: printed by a program. -/
import Derived.Test.YtdalobojhfafbaaGreatDoorW9
import Derived.KernelRfl
set_option maxRecDepth 100000
set_option linter.unusedVariables false
namespace Go.Proofs.YtdalobojhfafbaaGreatDoor
open Go Go.V
noncomputable abbrev fn143 : Func := Tryz.f143
/- slices.ContainsFunc[[]ashlar/api.Assign,ashlar/api.Assign] -/
def A143 (a0 a1 : D) (L : List Bx) (R : AE → List Bx → Prop) : Prop :=
acallW pr 181 [a0, a1] L (apn R) fun t7 w1 =>
aar .geq t7 (.i 0) fun t8 =>
R (.ret t8) w1
theorem A143_eq : A143 = fun a0 a1 L R => aex pr ⟨[], []⟩ (bodyOf fn143) (aenv0 [a0, a1]) L (apost pr fn143.results.toList R) := by kernel_rfl
theorem s143 {a0 a1 : D} {L : List Bx} {R : AE → List Bx → Prop} (h : A143 a0 a1 L R) : ASpec pr 143 [a0, a1] L R :=
  aspec_of (A := ⟨[], []⟩) (fn := fn143) 2 mixed Tryz.func143 (by kernel_rfl) (by decide) rfl (by kernel_rfl) (by rw [A143_eq] at h; exact h)
noncomputable abbrev fn181 : Func := Tryz.f181
/- slices.IndexFunc[[]ashlar/api.Assign,ashlar/api.Assign] -/
def A181 (a0 a1 : D) (L : List Bx) (R : AE → List Bx → Prop) : Prop :=
alenL a0 fun t7 =>
alp [.i 0] L fun v2 w1 k2 =>
aar .lss (aix v2 0) t7 fun t9 =>
acnd t9 (aidxS 5 a0 (aix v2 0) fun t14 =>
aldN 5 t14 w1 fun t15 =>
acallF pr false a1 [t15] w1 (apn R) fun t16 w2 =>
acnd t16 (R (.ret (aix v2 0)) w2) (aar .add (aix v2 0) (.i 1) fun t18 =>
k2 [t18] w2)) (R (.ret (.i (-1))) w1)
theorem A181_eq : A181 = fun a0 a1 L R => aex pr ⟨[(5, [8])], []⟩ (bodyOf fn181) (aenv0 [a0, a1]) L (apost pr fn181.results.toList R) := by kernel_rfl
theorem s181 {a0 a1 : D} {L : List Bx} {R : AE → List Bx → Prop} (h : A181 a0 a1 L R) : ASpec pr 181 [a0, a1] L R :=
  aspec_of (A := ⟨[(5, [8])], []⟩) (fn := fn181) 2 mixed Tryz.func181 (by kernel_rfl) (by decide) rfl (by kernel_rfl) (by rw [A181_eq] at h; exact h)
end Go.Proofs.YtdalobojhfafbaaGreatDoor
