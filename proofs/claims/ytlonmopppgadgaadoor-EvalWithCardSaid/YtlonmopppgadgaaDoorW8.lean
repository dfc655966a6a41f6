/- What must hold ahead of a call, function by function: printed by a program. -/
import Derived.Test.YtlonmopppgadgaaDoorW6
import Derived.KernelRfl
set_option maxRecDepth 100000
set_option linter.unusedVariables false
namespace Go.Proofs.YtlonmopppgadgaaDoor
open Go Go.V
/- ashlar/eval.With -/
def A31o (a0 a1 a2 : D) (L : List Bx) (R : AE → List Bx → Prop) : Prop :=
abxv a0 L fun t3 w1 =>
abxv a2 w1 fun t5 w2 =>
abx [.i 0, .nil] w2 fun t6 w3 =>
afld 1 t3 fun t11 =>
ald1 t11 w3 fun t12 =>
alenL t12 fun t13 =>
aar .add t13 (.i 1) fun t14 =>
amkS 47 5 64 [.s ⟨#[]⟩, .i 0, .i 0, .b false, .nil] (.i 0) t14 w3 fun t15 w4 =>
afld 1 t3 fun t16 =>
ald1 t16 w4 fun t17 =>
alenL t17 fun t18 =>
alp [t15, .i 0] w4 fun v3 w5 k3 =>
aar .lss (aix v3 1) t18 fun t20 =>
acnd t20 (aidxS 5 t17 (aix v3 1) fun t21 =>
aldN 5 t21 w5 fun t22 =>
abx [.s ⟨#[]⟩, .i 0, .i 0, .b false, .nil] w5 fun t9 w6 =>
ast 5 t9 t22 w6 fun w7 =>
afld 0 t9 fun t24 =>
∃ x, x ∈ w7 ∧ x.k = .box ∧
ald1 t24 ([x]) fun t25 =>
afld 1 t9 fun t26 =>
aldN 4 t26 w7 fun t27 =>
acallW pr 56 [t27] w7 (apn R) fun t28 w8 =>
(∀ x ∈ w7, x.k = .box → x ∈ w8) ∧
abld [.s ⟨#[]⟩, .i 0, .i 0, .b false, .nil] [(0, 1, t25), (1, 4, t28)] fun t29 =>
abldF 5 1 [.s ⟨#[]⟩, .i 0, .i 0, .b false, .nil] [(0, 5, t29)] fun t30 =>
aapp 47 5 64 (aix v3 0) t30 w8 fun t31 w9 =>
aar .add (aix v3 1) (.i 1) fun t32 =>
k3 [t31, t32] w9) (afld 1 t3 fun t34 =>
ast 1 t34 (aix v3 0) w5 fun w10 =>
aldN 2 t3 w10 fun t35 =>
afld 0 t5 fun t37 =>
ald1 t37 w10 fun t38 =>
acallW pr 57 [t35, a1, t38] w10 (apn R) fun t39 w11 =>
aar .geq t39 (.i 0) fun t41 =>
acnd t41 (afld 1 t3 fun t42 =>
∃ x, x ∈ w11 ∧ x.k = .box ∧
ald1 t42 ([x]) fun t43 =>
aldN 4 t5 w11 fun t45 =>
acallW pr 56 [t45] w11 (apn R) fun t46 w12 =>
(∀ x ∈ w11, x.k = .box → x ∈ w12) ∧
aidxS 5 t43 t39 fun t47 =>
afld 1 t47 fun t48 =>
ast 4 t48 t46 w12 fun w13 =>
aldN 2 t3 w13 fun t58 =>
ast 2 t6 t58 w13 fun w14 =>
aldN 2 t6 w14 fun r0 =>
R (.ret r0) w14) (afld 1 t3 fun t49 =>
∃ x, x ∈ w11 ∧ x.k = .box ∧
ald1 t49 ([x]) fun t50 =>
aldN 4 t5 w11 fun t52 =>
acallW pr 56 [t52] w11 (apn R) fun t53 w15 =>
(∀ x ∈ w11, x.k = .box → x ∈ w15) ∧
abld [.s ⟨#[]⟩, .i 0, .i 0, .b false, .nil] [(0, 1, a1), (1, 4, t53)] fun t54 =>
abldF 5 1 [.s ⟨#[]⟩, .i 0, .i 0, .b false, .nil] [(0, 5, t54)] fun t55 =>
aapp 47 5 64 t50 t55 w15 fun t56 w16 =>
afld 1 t3 fun t57 =>
ast 1 t57 t56 w16 fun w17 =>
aldN 2 t3 w17 fun t58 =>
ast 2 t6 t58 w17 fun w18 =>
aldN 2 t6 w18 fun r0 =>
R (.ret r0) w18))
theorem A31o_eq : A31o = fun a0 a1 a2 L R => aex pr ⟨[(7, [7, 19])], [(5, [(0, 0), (1, 0), (2, 5), (3, 0), (4, 0), (5, 4), (6, 0), (7, 0), (8, 2), (9, 2)]), (10, [(0, 0), (1, 5), (2, 0), (3, 0), (4, 4), (5, 0), (6, 0), (7, 2)]), (11, [(0, 0), (1, 5), (2, 0), (3, 0), (4, 4), (5, 0), (6, 0), (7, 2), (8, 0), (9, 2)])]⟩ (bodyOf fn31) (aenv0 [a0, a1, a2]) L (apost pr fn31.results.toList R) := by kernel_rfl
theorem s31o {a0 a1 a2 : D} {L : List Bx} {R : AE → List Bx → Prop} (h : A31o a0 a1 a2 L R) : ASpec pr 31 [a0, a1, a2] L R :=
  aspec_of (A := ⟨[(7, [7, 19])], [(5, [(0, 0), (1, 0), (2, 5), (3, 0), (4, 0), (5, 4), (6, 0), (7, 0), (8, 2), (9, 2)]), (10, [(0, 0), (1, 5), (2, 0), (3, 0), (4, 4), (5, 0), (6, 0), (7, 2)]), (11, [(0, 0), (1, 5), (2, 0), (3, 0), (4, 4), (5, 0), (6, 0), (7, 2), (8, 0), (9, 2)])]⟩) (fn := fn31) 3 mixed Tryd.func31 (by kernel_rfl) (by decide) rfl (by kernel_rfl) (by rw [A31o_eq] at h; exact h)
end Go.Proofs.YtlonmopppgadgaaDoor
