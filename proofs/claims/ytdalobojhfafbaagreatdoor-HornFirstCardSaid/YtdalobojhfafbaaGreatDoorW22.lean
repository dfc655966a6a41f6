/- What must hold ahead of a call, function by function: printed by a program. -/
import Derived.Test.YtdalobojhfafbaaGreatDoorW20
import Derived.KernelRfl
set_option maxRecDepth 100000
set_option linter.unusedVariables false
namespace Go.Proofs.YtdalobojhfafbaaGreatDoor
open Go Go.V
noncomputable abbrev fn10 : Func := Tryz.f10
/- ashlar/ashlarlaw19.HornFirst -/
def A10 (a0 a1 a2 : D) (L : List Bx) (R : AE → List Bx → Prop) : Prop :=
abxv a0 L fun t3 w1 =>
abxv a1 w1 fun t4 w2 =>
acallW pr 29 [] w2 (apn R) fun t16 w3 =>
aar .and a2 (.i 7) fun t18 =>
aar .add (.i 1) t18 fun t19 =>
aldN 11 t3 w3 fun t21 =>
aldN 4 t4 w3 fun t22 =>
acallW pr 30 [t21, t22] w3 (apn R) fun t23 w4 =>
aext 0 t23 fun t24 =>
aext 1 t23 fun t25 =>
abx [.i 0, .s ⟨#[]⟩, .i 0, .nil] w4 fun t8 w5 =>
ast 4 t8 t24 w5 fun w6 =>
aldN 11 t3 w6 fun t27 =>
acallW pr 13 [t27, t19] w6 (apn R) fun t29 w7 =>
aext 0 t29 fun t30 =>
aext 1 t29 fun t31 =>
ajn (fun v7 w8 =>
aldN 4 t8 w8 fun t44 =>
abld [.i 0, .nil] [(0, 1, t19)] fun t46 =>
acallW pr 31 [t44, t46] w8 (apn R) fun t47 w9 =>
aext 0 t47 fun t48 =>
aext 1 t47 fun t49 =>
abx [.i 0, .i 0, .b false, .nil] w9 fun t12 w10 =>
ast 4 t12 t48 w10 fun w11 =>
aldN 4 t4 w11 fun t51 =>
acallS pr 20 [t30] w11 (fun _ _ => False) fun t53 w12 =>
acallS pr 31 [t51, t53] w12 (fun _ _ => False) fun t54 w13 =>
aext 0 t54 fun t55 =>
aext 1 t54 fun t56 =>
abx [.i 0, .i 0, .b false, .nil] w13 fun t14 w14 =>
ast 4 t14 t55 w14 fun w15 =>
acnd t16 (aldN 4 t12 w15 fun t59 =>
aldN 4 t14 w15 fun t60 =>
acallW pr 25 [t59, t60] w15 (apn R) fun t61 w16 =>
acnd t61 (aar .eql t49 t56 fun t66 =>
R (.ret t66) w16) (R (.ret (.b false)) w16)) (R (.ret (.b false)) w15)) fun j7 =>
aar .neq t25 (.i 0) fun t33 =>
acnd t33 (R (.ret t16) w7) (aar .neq t31 (.i 0) fun t36 =>
acnd t36 (R (.ret t16) w7) (aeqP .eql t30 (.val (.pointer none)) fun t40 =>
acnd t40 (R (.ret t16) w7) (j7 [] w7)))
theorem A10_eq : A10 = fun a0 a1 a2 L R => aex pr ⟨[(14, [])], [(8, [(0, 0), (1, 0), (2, 0), (3, 0), (4, 0), (5, 0), (6, 0), (7, 3), (8, 2), (9, 2)])]⟩ (bodyOf fn10) (aenv0 [a0, a1, a2]) L (apost pr fn10.results.toList R) := by kernel_rfl
theorem s10 {a0 a1 a2 : D} {L : List Bx} {R : AE → List Bx → Prop} (h : A10 a0 a1 a2 L R) : ASpec pr 10 [a0, a1, a2] L R :=
  aspec_of (A := ⟨[(14, [])], [(8, [(0, 0), (1, 0), (2, 0), (3, 0), (4, 0), (5, 0), (6, 0), (7, 3), (8, 2), (9, 2)])]⟩) (fn := fn10) 3 mixed Tryz.func10 (by kernel_rfl) (by decide) rfl (by kernel_rfl) (by rw [A10_eq] at h; exact h)
end Go.Proofs.YtdalobojhfafbaaGreatDoor
