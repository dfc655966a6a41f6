/- What must hold ahead of a call, function by function: printed by a program. -/
import Derived.Test.YtaigilchnadmpaaGreatDoorW2
import Derived.KernelRfl
set_option maxRecDepth 100000
set_option linter.unusedVariables false
namespace Go.Proofs.YtaigilchnadmpaaGreatDoor
open Go Go.V
noncomputable abbrev fn61 : Func := Tryz.f61
/- ashlar/ashlarref03.Names -/
def A61 (a0 : D) (L : List Bx) (R : AE → List Bx → Prop) : Prop :=
abxv a0 L fun t1 w1 =>
aldN 4 t1 w1 fun t6 =>
acallW pr 54 [t6] w1 (apn R) fun t7 w2 =>
aext 0 t7 fun t8 =>
aext 1 t7 fun t9 =>
aar .neq t9 (.i 0) fun t11 =>
acnd t11 (R (.ret (.nil)) w2) (aldN 4 t1 w2 fun t12 =>
acallW pr 117 [.nil, t12] w2 (apn R) fun t13 w3 =>
R (.ret t13) w3)
theorem A61_eq : A61 = fun a0 L R => aex pr ⟨[], []⟩ (bodyOf fn61) (aenv0 [a0]) L (apost pr fn61.results.toList R) := by kernel_rfl
theorem s61 {a0 : D} {L : List Bx} {R : AE → List Bx → Prop} (h : A61 a0 L R) : ASpec pr 61 [a0] L R :=
  aspec_of (A := ⟨[], []⟩) (fn := fn61) 1 mixed Tryz.func61 (by kernel_rfl) (by decide) rfl (by kernel_rfl) (by rw [A61_eq] at h; exact h)
end Go.Proofs.YtaigilchnadmpaaGreatDoor
