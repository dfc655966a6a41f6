/- What must hold ahead of a call, function by function: printed by a program. -/
import Derived.Test.YtdalobojhfafbaaGreatDoorW20
import Derived.KernelRfl
set_option maxRecDepth 100000
set_option linter.unusedVariables false
namespace Go.Proofs.YtdalobojhfafbaaGreatDoor
open Go Go.V
noncomputable abbrev fn11 : Func := Tryz.f11
def A11 (a0 a1 a2 a3 : D) (L : List Bx) (R : AE → List Bx → Prop) : Prop :=
abxv a0 L fun t4 w1 =>
abxv a1 w1 fun t5 w2 =>
acallW pr 29 [] w2 (apn R) fun t25 w3 =>
aar .and a2 (.i 7) fun t27 =>
aar .add (.i 1) t27 fun t28 =>
aldN 11 t4 w3 fun t30 =>
acallW pr 13 [t30, t28] w3 (apn R) fun t32 w4 =>
aext 0 t32 fun t33 =>
aext 1 t32 fun t34 =>
ajn (fun v6 w5 =>
alp [.i 0] w5 fun v7 w6 k7 =>
ajn (fun v9 w7 =>
acallW pr 20 [t33] w7 (apn R) fun t53 w8 =>
abx [.i 0, .nil] w8 fun t13 w9 =>
ast 2 t13 t53 w9 fun w10 =>
aldN 11 t4 w10 fun t55 =>
aidxS 3 a3 (aix v7 0) fun t59 =>
aldN 3 t59 w10 fun t60 =>
acallW pr 32 [t55, t33, t60] w10 (apn R) fun t61 w11 =>
aext 0 t61 fun t62 =>
aext 1 t61 fun t63 =>
aar .lss t62 (.i 0) fun t65 =>
acnd t65 (aar .add (aix v7 0) (.i 1) fun t51 =>
k7 [t51] w11) (aldN 11 t4 w11 fun t67 =>
aldN 4 t5 w11 fun t69 =>
acallW pr 33 [t67, t62, t69] w11 (apn R) fun t70 w12 =>
aext 0 t70 fun t71 =>
aext 1 t70 fun t72 =>
abx [.i 0, .s ⟨#[]⟩, .i 0, .nil] w12 fun t16 w13 =>
ast 4 t16 t71 w13 fun w14 =>
aar .neq t72 (.i 0) fun t74 =>
acnd t74 (aar .add (aix v7 0) (.i 1) fun t51 =>
k7 [t51] w14) (aldN 2 t13 w14 fun t75 =>
afld 5 t4 fun t76 =>
ald1 t76 w14 fun t77 =>
aidxS 9 t77 t62 fun t79 =>
afld 2 t79 fun t80 =>
ald1 t80 w14 fun t81 =>
abld [.i 0, .i 0, .b false, .nil] [(0, 1, .i 3), (1, 1, t63)] fun t83 =>
acallS pr 34 [t75, t81, t83] w14 (fun _ _ => False) fun t84 w15 =>
abx [.i 0, .nil] w15 fun t18 w16 =>
ast 2 t18 t84 w16 fun w17 =>
aldN 4 t16 w17 fun t86 =>
aldN 2 t18 w17 fun t87 =>
acallW pr 31 [t86, t87] w17 (apn R) fun t88 w18 =>
aext 0 t88 fun t89 =>
aext 1 t88 fun t90 =>
abx [.i 0, .i 0, .b false, .nil] w18 fun t19 w19 =>
ast 4 t19 t89 w19 fun w20 =>
aldN 4 t5 w20 fun t92 =>
acallS pr 20 [t33] w20 (fun _ _ => False) fun t94 w21 =>
acallS pr 31 [t92, t94] w21 (fun _ _ => False) fun t95 w22 =>
aext 0 t95 fun t96 =>
aext 1 t95 fun t97 =>
abx [.i 0, .i 0, .b false, .nil] w22 fun t21 w23 =>
ast 4 t21 t96 w23 fun w24 =>
afld 3 t16 fun t99 =>
ald1 t99 w24 fun t100 =>
aidxS 4 t100 (.i 0) fun t101 =>
aldN 4 t101 w24 fun t102 =>
aldN 2 t18 w24 fun t103 =>
acallS pr 31 [t102, t103] w24 (fun _ _ => False) fun t104 w25 =>
aext 0 t104 fun t105 =>
aext 1 t104 fun t106 =>
abx [.i 0, .i 0, .b false, .nil] w25 fun t23 w26 =>
ast 4 t23 t105 w26 fun w27 =>
aar .neq t106 (.i 0) fun t108 =>
acnd t108 (R (.ret (.b false)) w27) (afld 2 t23 fun t110 =>
ald1 t110 w27 fun t111 =>
anotb t111 fun t112 =>
acnd t112 (R (.ret (.b false)) w27) (afld 2 t19 fun t115 =>
ald1 t115 w27 fun t116 =>
afld 2 t21 fun t117 =>
ald1 t117 w27 fun t118 =>
aarB .neq t116 t118 fun t119 =>
acnd t119 (R (.ret (.b false)) w27) (aar .neq t90 t97 fun t124 =>
acnd t124 (R (.ret (.b false)) w27) (aar .add (aix v7 0) (.i 1) fun t51 =>
k7 [t51] w27))))))) fun j9 =>
alenL a3 fun t44 =>
aar .lss (aix v7 0) t44 fun t45 =>
acnd t45 (aar .lss (aix v7 0) (.i 40) fun t48 =>
acnd t48 (j9 [] w6) (R (.ret t25) w6)) (R (.ret t25) w6)) fun j6 =>
aar .neq t34 (.i 0) fun t36 =>
acnd t36 (R (.ret t25) w4) (aeqP .eql t33 (.val (.pointer none)) fun t39 =>
acnd t39 (R (.ret t25) w4) (j6 [] w4))
theorem A11_eq : A11 = fun a0 a1 a2 a3 L R => aex pr ⟨[(12, []), (15, [12]), (18, [])], [(10, [(0, 0), (1, 0), (2, 0), (3, 0), (4, 0), (5, 0), (6, 2), (7, 0), (8, 0), (9, 0), (10, 2), (11, 2)]), (14, [(0, 0), (1, 0), (2, 0), (3, 0), (4, 0), (5, 0), (6, 0), (7, 0), (8, 0), (9, 0), (10, 3), (11, 2)]), (16, [(0, 0), (1, 0), (2, 0), (3, 0), (4, 0), (5, 0), (6, 0), (7, 3), (8, 2), (9, 2)]), (17, [(0, 0), (1, 0), (2, 0), (3, 0), (4, 0), (5, 0), (6, 0), (7, 0), (8, 0), (9, 3), (10, 2), (11, 2)])]⟩ (bodyOf fn11) (aenv0 [a0, a1, a2, a3]) L (apost pr fn11.results.toList R) := by kernel_rfl
theorem s11 {a0 a1 a2 a3 : D} {L : List Bx} {R : AE → List Bx → Prop} (h : A11 a0 a1 a2 a3 L R) : ASpec pr 11 [a0, a1, a2, a3] L R :=
  aspec_of (A := ⟨[(12, []), (15, [12]), (18, [])], [(10, [(0, 0), (1, 0), (2, 0), (3, 0), (4, 0), (5, 0), (6, 2), (7, 0), (8, 0), (9, 0), (10, 2), (11, 2)]), (14, [(0, 0), (1, 0), (2, 0), (3, 0), (4, 0), (5, 0), (6, 0), (7, 0), (8, 0), (9, 0), (10, 3), (11, 2)]), (16, [(0, 0), (1, 0), (2, 0), (3, 0), (4, 0), (5, 0), (6, 0), (7, 3), (8, 2), (9, 2)]), (17, [(0, 0), (1, 0), (2, 0), (3, 0), (4, 0), (5, 0), (6, 0), (7, 0), (8, 0), (9, 3), (10, 2), (11, 2)])]⟩) (fn := fn11) 4 mixed Tryz.func11 (by kernel_rfl) (by decide) rfl (by kernel_rfl) (by rw [A11_eq] at h; exact h)
noncomputable abbrev fn32 : Func := Tryz.f32
def A32 (a0 a1 a2 : D) (L : List Bx) (R : AE → List Bx → Prop) : Prop :=
abxv a0 L fun t3 w1 =>
abxv a2 w1 fun t5 w2 =>
afld 0 t5 fun t17 =>
ald1 t17 w2 fun t18 =>
ajn (fun v4 w3 =>
acnd (aix v4 0) (acallW pr 22 [a1] w3 (apn R) fun t23 w4 =>
ajn (fun v7 w5 =>
acallW pr 20 [a1] w5 (apn R) fun t35 w6 =>
abx [.i 0, .nil] w6 fun t9 w7 =>
ast 2 t9 t35 w7 fun w8 =>
afld 5 t3 fun t36 =>
ald1 t36 w8 fun t37 =>
alenL t37 fun t38 =>
alp [.i (-1), t38] w8 fun v10 w9 k10 =>
aar .gtr (aix v10 1) (.i 0) fun t40 =>
acnd t40 (afld 5 t3 fun t43 =>
ald1 t43 w9 fun t44 =>
aar .sub (aix v10 1) (.i 1) fun t46 =>
aidxS 9 t44 t46 fun t47 =>
aldN 9 t47 w9 fun t48 =>
abx [.b false, .s ⟨#[]⟩, .s ⟨#[]⟩, .i 0, .s ⟨#[]⟩, .i 0, .nil, .nil, .nil] w9 fun t12 w10 =>
ast 9 t12 t48 w10 fun w11 =>
afld 3 t12 fun t50 =>
aldN 4 t50 w11 fun t51 =>
aldN 2 t9 w11 fun t52 =>
afld 2 t12 fun t53 =>
ald1 t53 w11 fun t54 =>
afld 1 t5 fun t56 =>
ald1 t56 w11 fun t57 =>
aidxS 2 t23 t57 fun t58 =>
afld 1 t58 fun t59 =>
ald1 t59 w11 fun t60 =>
abld [.i 0, .i 0, .b false, .nil] [(0, 1, .i 3), (1, 1, t60)] fun t61 =>
acallS pr 34 [t52, t54, t61] w11 (fun _ _ => False) fun t62 w12 =>
acallS pr 31 [t51, t62] w12 (fun _ _ => False) fun t63 w13 =>
aext 0 t63 fun t64 =>
aext 1 t63 fun t65 =>
abx [.i 0, .i 0, .b false, .nil] w13 fun t13 w14 =>
ast 4 t13 t64 w14 fun w15 =>
ajn (fun v15 w16 =>
acnd (aix v15 0) (aar .sub (aix v10 1) (.i 1) fun t89 =>
aar .sub (aix v10 1) (.i 1) fun t42 =>
k10 [t89, t42] w16) (aar .sub (aix v10 1) (.i 1) fun t42 =>
k10 [aix v10 0, t42] w16)) fun j15 =>
afld 0 t12 fun t66 =>
ald1 t66 w15 fun t67 =>
anotb t67 fun t68 =>
acnd t68 (afld 1 t12 fun t70 =>
ald1 t70 w15 fun t71 =>
afld 1 t5 fun t73 =>
ald1 t73 w15 fun t74 =>
aidxS 2 t23 t74 fun t75 =>
afld 0 t75 fun t76 =>
ald1 t76 w15 fun t77 =>
aar .eql t71 t77 fun t78 =>
acnd t78 (aar .eql t65 (.i 0) fun t82 =>
acnd t82 (afld 2 t13 fun t85 =>
ald1 t85 w15 fun t86 =>
j15 [t86] w15) (j15 [.b false] w15)) (j15 [.b false] w15)) (j15 [.b false] w15)) (afld 1 t5 fun t91 =>
ald1 t91 w9 fun t92 =>
acallW pr 37 [a1, t92] w9 (apn R) fun t93 w17 =>
anotb t93 fun t95 =>
acnd t95 (R (.ret (.tuple [.i (-1), .i 0])) w17) (afld 1 t5 fun t98 =>
ald1 t98 w17 fun t99 =>
aidxS 2 t23 t99 fun t100 =>
afld 1 t100 fun t101 =>
ald1 t101 w17 fun t102 =>
R (.ret (.tuple [aix v10 0, t102])) w17))) fun j7 =>
afld 1 t5 fun t24 =>
ald1 t24 w4 fun t25 =>
aar .lss t25 (.i 0) fun t26 =>
acnd t26 (R (.ret (.tuple [.i (-1), .i 0])) w4) (afld 1 t5 fun t28 =>
ald1 t28 w4 fun t29 =>
alenL t23 fun t31 =>
aar .geq t29 t31 fun t32 =>
acnd t32 (R (.ret (.tuple [.i (-1), .i 0])) w4) (j7 [] w4))) (aar .eql t18 (.i 2) fun t104 =>
acnd t104 (afld 1 t5 fun t106 =>
ald1 t106 w3 fun t107 =>
acallW pr 28 [a1, t107] w3 (apn R) fun t108 w18 =>
R (.ret (.tuple [.i (-1), .i 0])) w18) (ajn (fun v26 w19 =>
acnd (aix v26 0) (afld 1 t5 fun t115 =>
ald1 t115 w19 fun t116 =>
afld 2 t5 fun t117 =>
ald1 t117 w19 fun t118 =>
acallW pr 36 [a1, t116, t118] w19 (apn R) fun t119 w20 =>
acnd t119 (afld 1 t5 fun t121 =>
ald1 t121 w20 fun t122 =>
afld 2 t5 fun t123 =>
ald1 t123 w20 fun t124 =>
R (.ret (.tuple [t122, t124])) w20) (R (.ret (.tuple [.i (-1), .i 0])) w20)) (R (.ret (.tuple [.i (-1), .i 0])) w19)) fun j26 =>
aar .eql t18 (.i 3) fun t110 =>
acnd t110 (j26 [t110] w3) (aar .eql t18 (.i 4) fun t111 =>
acnd t111 (j26 [t111] w3) (aar .eql t18 (.i 5) fun t112 =>
acnd t112 (j26 [t112] w3) (aar .eql t18 (.i 6) fun t113 =>
j26 [t113] w3)))))) fun j4 =>
aar .eql t18 (.i 0) fun t20 =>
acnd t20 (j4 [t20] w2) (aar .eql t18 (.i 1) fun t21 =>
j4 [t21] w2)
theorem A32_eq : A32 = fun a0 a1 a2 L R => aex pr ⟨[(8, [19]), (14, []), (21, [10, 11]), (30, [87]), (52, [109])], [(13, [(0, 0), (1, 0), (2, 0), (3, 0), (4, 0), (5, 0), (6, 0), (7, 0), (8, 0), (9, 0), (10, 0), (11, 0), (12, 0), (13, 0), (14, 0), (15, 0), (16, 0), (17, 3), (18, 2), (19, 2)]), (14, [(0, 0), (1, 0), (2, 0), (3, 0), (4, 0), (5, 0), (6, 0), (7, 0), (8, 0), (9, 0), (10, 0), (11, 0), (12, 0), (13, 0), (14, 0), (15, 0), (16, 0), (17, 0), (18, 0), (19, 0), (20, 0), (21, 0)]), (19, [(0, 0), (1, 0), (2, 0), (3, 0), (4, 0), (5, 0), (6, 0), (7, 0), (8, 2)]), (28, [(0, 0), (1, 0), (2, 0), (3, 0), (4, 0), (5, 2)])]⟩ (bodyOf fn32) (aenv0 [a0, a1, a2]) L (apost pr fn32.results.toList R) := by kernel_rfl
theorem s32 {a0 a1 a2 : D} {L : List Bx} {R : AE → List Bx → Prop} (h : A32 a0 a1 a2 L R) : ASpec pr 32 [a0, a1, a2] L R :=
  aspec_of (A := ⟨[(8, [19]), (14, []), (21, [10, 11]), (30, [87]), (52, [109])], [(13, [(0, 0), (1, 0), (2, 0), (3, 0), (4, 0), (5, 0), (6, 0), (7, 0), (8, 0), (9, 0), (10, 0), (11, 0), (12, 0), (13, 0), (14, 0), (15, 0), (16, 0), (17, 3), (18, 2), (19, 2)]), (14, [(0, 0), (1, 0), (2, 0), (3, 0), (4, 0), (5, 0), (6, 0), (7, 0), (8, 0), (9, 0), (10, 0), (11, 0), (12, 0), (13, 0), (14, 0), (15, 0), (16, 0), (17, 0), (18, 0), (19, 0), (20, 0), (21, 0)]), (19, [(0, 0), (1, 0), (2, 0), (3, 0), (4, 0), (5, 0), (6, 0), (7, 0), (8, 2)]), (28, [(0, 0), (1, 0), (2, 0), (3, 0), (4, 0), (5, 2)])]⟩) (fn := fn32) 3 mixed Tryz.func32 (by kernel_rfl) (by decide) rfl (by kernel_rfl) (by rw [A32_eq] at h; exact h)
end Go.Proofs.YtdalobojhfafbaaGreatDoor
