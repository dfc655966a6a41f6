/- What must hold ahead of a call, function by function: printed by a program. -/
import Derived.Test.YtlonmopppgadgaaGreatDoorW6
import Derived.KernelRfl
set_option maxRecDepth 100000
set_option linter.unusedVariables false
namespace Go.Proofs.YtlonmopppgadgaaGreatDoor
open Go Go.V
noncomputable abbrev fn3 : Func := Tryz.f3
/- ashlar/ashlarlaw04.EvalSorts -/
def A3 (a0 a1 : D) (L : List Bx) (R : AE → List Bx → Prop) : Prop :=
abxv a0 L fun t2 w1 =>
abxv a1 w1 fun t3 w2 =>
acallW pr 5 [] w2 (apn R) fun t19 w3 =>
aldN 4 t2 w3 fun t21 =>
acallW pr 6 [t21] w3 (apn R) fun t22 w4 =>
aext 0 t22 fun t23 =>
aext 1 t22 fun t24 =>
ajn (fun v6 w5 =>
aldN 4 t2 w5 fun t53 =>
aldN 2 t3 w5 fun t54 =>
acallW pr 8 [t53, t54] w5 (apn R) fun t55 w6 =>
aext 0 t55 fun t56 =>
aext 1 t55 fun t57 =>
abx [.i 0, .i 0, .b false, .nil] w6 fun t10 w7 =>
ast 4 t10 t56 w7 fun w8 =>
aldN 4 t2 w8 fun t58 =>
acallW pr 9 [t58] w8 (apn R) fun t59 w9 =>
alp [.b true, .i 0] w9 fun v10 w10 k10 =>
alenL t59 fun t62 =>
aar .lss (aix v10 1) t62 fun t63 =>
acnd t63 (aidxS 5 t59 (aix v10 1) fun t69 =>
afld 1 t69 fun t70 =>
aldN 4 t70 w10 fun t71 =>
acallW pr 6 [t71] w10 (apn R) fun t72 w11 =>
aext 0 t72 fun t73 =>
aext 1 t72 fun t74 =>
aldN 2 t3 w11 fun t76 =>
aidxS 5 t59 (aix v10 1) fun t79 =>
afld 0 t79 fun t80 =>
ald1 t80 w11 fun t81 =>
acallS pr 10 [t76, t81, t73] w11 (fun _ _ => False) fun t83 w12 =>
aext 0 t83 fun t84 =>
aext 1 t83 fun t85 =>
abx [.i 0, .i 0, .b false, .nil] w12 fun t17 w13 =>
ast 4 t17 t84 w13 fun w14 =>
acnd (aix v10 0) (aar .add (aix v10 1) (.i 1) fun t65 =>
k10 [t85, t65] w14) (aar .add (aix v10 1) (.i 1) fun t65 =>
k10 [.b false, t65] w14)) (aar .neq t57 (.i 0) fun t91 =>
acnd t91 (acnd t19 (afld 0 t10 fun t94 =>
ald1 t94 w10 fun t95 =>
aar .eql t95 (.i 0) fun t96 =>
acnd t96 (aar .eql t57 (.i 5) fun t100 =>
ajn (fun y108 w15 =>
R (.ret (aix y108 0)) w15) fun j108 =>
acnd t100 (j108 [.b true] w10) (aar .eql t57 (.i 4) fun t103 =>
ajn (fun y107 w16 =>
j108 [aix y107 0] w16) fun j107 =>
acnd t103 (anotb (aix v10 0) fun t106 =>
j107 [t106] w10) (j107 [.b false] w10))) (R (.ret (.b false)) w10)) (R (.ret (.b false)) w10)) (acnd t19 (acnd (aix v10 0) (afld 0 t10 fun t115 =>
ald1 t115 w10 fun t116 =>
aar .eql t116 t23 fun t118 =>
acnd t118 (aar .neq t23 (.i 2) fun t122 =>
ajn (fun y130 w17 =>
acnd (aix y130 0) (aar .neq t23 (.i 3) fun t134 =>
ajn (fun y146 w18 =>
R (.ret (aix y146 0)) w18) fun j146 =>
acnd t134 (j146 [.b true] w17) (afld 1 t10 fun t136 =>
ald1 t136 w17 fun t137 =>
aar .geq t137 (.i 0) fun t138 =>
ajn (fun y145 w19 =>
j146 [aix y145 0] w19) fun j145 =>
acnd t138 (afld 1 t10 fun t140 =>
ald1 t140 w17 fun t141 =>
afld 0 t3 fun t142 =>
ald1 t142 w17 fun t143 =>
aar .lss t141 t143 fun t144 =>
j145 [t144] w17) (j145 [.b false] w17))) (R (.ret (.b false)) w17)) fun j130 =>
acnd t122 (j130 [.b true] w10) (afld 3 t10 fun t124 =>
ald1 t124 w10 fun t125 =>
alenL t125 fun t126 =>
afld 0 t3 fun t127 =>
ald1 t127 w10 fun t128 =>
aar .eql t126 t128 fun t129 =>
j130 [t129] w10)) (R (.ret (.b false)) w10)) (R (.ret (.b false)) w10)) (R (.ret (.b false)) w10)))) fun j6 =>
ajn (fun v4 w20 =>
acnd (aix v4 0) (aldN 4 t2 w20 fun t33 =>
aldN 2 t3 w20 fun t34 =>
acallW pr 8 [t33, t34] w20 (apn R) fun t35 w21 =>
aext 0 t35 fun t36 =>
aext 1 t35 fun t37 =>
abx [.i 0, .i 0, .b false, .nil] w21 fun t8 w22 =>
ast 4 t8 t36 w22 fun w23 =>
acnd t19 (aar .neq t37 (.i 0) fun t41 =>
acnd t41 (aar .eql t24 (.i 0) fun t45 =>
ajn (fun y50 w24 =>
R (.ret (aix y50 0)) w24) fun j50 =>
acnd t45 (j50 [.b true] w23) (aar .eql t37 t24 fun t49 =>
j50 [t49] w23)) (R (.ret (.b false)) w23)) (R (.ret (.b false)) w23)) (j6 [] w20)) fun j4 =>
aar .neq t24 (.i 0) fun t26 =>
acnd t26 (j4 [.b true] w4) (aldN 2 t3 w4 fun t28 =>
acallW pr 7 [t28] w4 (apn R) fun t29 w25 =>
anotb t29 fun t30 =>
j4 [t30] w25)
theorem A3_eq : A3 = fun a0 a1 L R => aex pr ⟨[(8, [31]), (12, []), (21, [13, 14]), (3000050, []), (3000107, []), (3000108, []), (3000130, []), (3000145, []), (3000146, [])], [(13, [(0, 0), (1, 0), (2, 0), (3, 0), (4, 0), (5, 0), (6, 0), (7, 0), (8, 0), (9, 0), (10, 0), (11, 3), (12, 2), (13, 2)])]⟩ (bodyOf fn3) (aenv0 [a0, a1]) L (apost pr fn3.results.toList R) := by kernel_rfl
theorem s3 {a0 a1 : D} {L : List Bx} {R : AE → List Bx → Prop} (h : A3 a0 a1 L R) : ASpec pr 3 [a0, a1] L R :=
  aspec_of (A := ⟨[(8, [31]), (12, []), (21, [13, 14]), (3000050, []), (3000107, []), (3000108, []), (3000130, []), (3000145, []), (3000146, [])], [(13, [(0, 0), (1, 0), (2, 0), (3, 0), (4, 0), (5, 0), (6, 0), (7, 0), (8, 0), (9, 0), (10, 0), (11, 3), (12, 2), (13, 2)])]⟩) (fn := fn3) 2 mixed Tryz.func3 (by kernel_rfl) (by decide) rfl (by kernel_rfl) (by rw [A3_eq] at h; exact h)
noncomputable abbrev fn4 : Func := Tryz.f4
/- ashlar/ashlarlaw04.EvalApart -/
def A4 (a0 a1 a2 a3 : D) (L : List Bx) (R : AE → List Bx → Prop) : Prop :=
abxv a0 L fun t4 w1 =>
abxv a1 w1 fun t5 w2 =>
acallW pr 5 [] w2 (apn R) fun t18 w3 =>
aldN 4 t4 w3 fun t19 =>
acallW pr 9 [t19] w3 (apn R) fun t20 w4 =>
alp [.i 0] w4 fun v4 w5 k4 =>
alenL t20 fun t23 =>
aar .lss (aix v4 0) t23 fun t24 =>
acnd t24 (aidxS 5 t20 (aix v4 0) fun t29 =>
afld 0 t29 fun t30 =>
ald1 t30 w5 fun t31 =>
aar .eql t31 a2 fun t33 =>
acnd t33 (R (.ret t18) w5) (aar .add (aix v4 0) (.i 1) fun t26 =>
k4 [t26] w5)) (acallW pr 11 [a2] w5 (apn R) fun t36 w6 =>
ajn (fun v11 w7 =>
aldN 2 t5 w7 fun t51 =>
abld [.i 0, .i 0, .b false, .nil] [(0, 1, .i 1), (1, 1, a3)] fun t54 =>
acallW pr 12 [t51, a2, t54] w7 (apn R) fun t55 w8 =>
abx [.i 0, .nil] w8 fun t13 w9 =>
ast 2 t13 t55 w9 fun w10 =>
aldN 4 t4 w10 fun t57 =>
aldN 2 t5 w10 fun t58 =>
acallW pr 8 [t57, t58] w10 (apn R) fun t59 w11 =>
aext 0 t59 fun t60 =>
aext 1 t59 fun t61 =>
abx [.i 0, .i 0, .b false, .nil] w11 fun t14 w12 =>
ast 4 t14 t60 w12 fun w13 =>
aldN 4 t4 w13 fun t63 =>
aldN 2 t13 w13 fun t64 =>
acallW pr 8 [t63, t64] w13 (apn R) fun t65 w14 =>
aext 0 t65 fun t66 =>
aext 1 t65 fun t67 =>
abx [.i 0, .i 0, .b false, .nil] w14 fun t16 w15 =>
ast 4 t16 t66 w15 fun w16 =>
acnd t18 (aldN 2 t13 w16 fun t70 =>
acallW pr 7 [t70] w16 (apn R) fun t71 w17 =>
acnd t71 (aldN 4 t14 w17 fun t74 =>
aldN 4 t16 w17 fun t75 =>
acallW pr 13 [t74, t75] w17 (apn R) fun t76 w18 =>
acnd t76 (aar .eql t61 t67 fun t81 =>
R (.ret t81) w18) (R (.ret (.b false)) w18)) (R (.ret (.b false)) w17)) (R (.ret (.b false)) w16)) fun j11 =>
anotb t36 fun t38 =>
acnd t38 (R (.ret t18) w6) (aldN 2 t5 w6 fun t40 =>
acallW pr 7 [t40] w6 (apn R) fun t41 w19 =>
anotb t41 fun t42 =>
acnd t42 (R (.ret t18) w19) (afld 1 t5 fun t45 =>
ald1 t45 w19 fun t46 =>
alenL t46 fun t47 =>
aar .geq t47 (.i 64) fun t48 =>
acnd t48 (R (.ret t18) w19) (j11 [] w19))))
theorem A4_eq : A4 = fun a0 a1 a2 a3 L R => aex pr ⟨[(9, [11]), (22, [])], []⟩ (bodyOf fn4) (aenv0 [a0, a1, a2, a3]) L (apost pr fn4.results.toList R) := by kernel_rfl
theorem s4 {a0 a1 a2 a3 : D} {L : List Bx} {R : AE → List Bx → Prop} (h : A4 a0 a1 a2 a3 L R) : ASpec pr 4 [a0, a1, a2, a3] L R :=
  aspec_of (A := ⟨[(9, [11]), (22, [])], []⟩) (fn := fn4) 4 mixed Tryz.func4 (by kernel_rfl) (by decide) rfl (by kernel_rfl) (by rw [A4_eq] at h; exact h)
end Go.Proofs.YtlonmopppgadgaaGreatDoor
