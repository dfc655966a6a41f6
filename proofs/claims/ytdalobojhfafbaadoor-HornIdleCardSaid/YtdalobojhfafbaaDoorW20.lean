/- What must hold ahead of a call, function by function: printed by a program. -/
import Derived.Test.YtdalobojhfafbaaDoorW15
import Derived.KernelRfl
set_option maxRecDepth 100000
set_option linter.unusedVariables false
namespace Go.Proofs.YtdalobojhfafbaaDoor
open Go Go.V
noncomputable abbrev fn5 : Func := Tryd.f5
/- ashlar/ashlarlaw19.shown -/
def A5 (L : List Bx) (R : AE → List Bx → Prop) : Prop :=
acallW pr 11 [] L (apn R) fun t13 w1 =>
abx [.nil, .nil, .nil, .nil, .nil, .nil, .i 0, .s ⟨#[]⟩, .i 0, .nil, .nil] w1 fun t1 w2 =>
ast 11 t1 t13 w2 fun w3 =>
aldN 11 t1 w3 fun t15 =>
afld 6 t1 fun t16 =>
aldN 4 t16 w3 fun t17 =>
acallW pr 10 [t15, t17] w3 (apn R) fun t18 w4 =>
aext 0 t18 fun t19 =>
aext 1 t18 fun t20 =>
abx [.i 0, .s ⟨#[]⟩, .i 0, .nil] w4 fun t2 w5 =>
ast 4 t2 t19 w5 fun w6 =>
aldN 11 t1 w6 fun t22 =>
afld 6 t1 fun t23 =>
aldN 4 t23 w6 fun t24 =>
acallW pr 9 [t22, .i 0, t24] w6 (apn R) fun t25 w7 =>
aext 0 t25 fun t26 =>
aext 1 t25 fun t27 =>
abx [.i 0, .s ⟨#[]⟩, .i 0, .nil] w7 fun t4 w8 =>
ast 4 t4 t26 w8 fun w9 =>
aldN 11 t1 w9 fun t29 =>
abldS 3 1 1 [.i 0] [(0, 1, .i 0)] w9 fun t30 w10 =>
acallW pr 7 [t29, t30] w10 (apn R) fun t31 w11 =>
aext 0 t31 fun t32 =>
aext 1 t31 fun t33 =>
aldN 11 t1 w11 fun t35 =>
afld 6 t1 fun t36 =>
aldN 4 t36 w11 fun t37 =>
acallW pr 9 [t35, .i 1, t37] w11 (apn R) fun t38 w12 =>
aext 0 t38 fun t39 =>
aext 1 t38 fun t40 =>
abx [.i 0, .s ⟨#[]⟩, .i 0, .nil] w12 fun t8 w13 =>
ast 4 t8 t39 w13 fun w14 =>
aldN 11 t1 w14 fun t42 =>
afld 6 t1 fun t43 =>
afld 3 t43 fun t44 =>
ald1 t44 w14 fun t45 =>
aidxS 4 t45 (.i 0) fun t46 =>
aldN 4 t46 w14 fun t47 =>
acallS pr 10 [t42, t47] w14 (fun _ _ => False) fun t48 w15 =>
aext 0 t48 fun t49 =>
aext 1 t48 fun t50 =>
abx [.i 0, .s ⟨#[]⟩, .i 0, .nil] w15 fun t10 w16 =>
ast 4 t10 t49 w16 fun w17 =>
abld [.i 0, .s ⟨#[]⟩, .i 0, .nil] [(0, 1, .i 1)] fun t51 =>
abld [.i 0, .s ⟨#[]⟩, .i 0, .nil] [(0, 1, .i 1), (2, 1, .i 3)] fun t52 =>
abldS 27 4 2 [.i 0, .s ⟨#[]⟩, .i 0, .nil, .i 0, .s ⟨#[]⟩, .i 0, .nil] [(0, 4, t51), (4, 4, t52)] w17 fun t53 w18 =>
abld [.i 0, .s ⟨#[]⟩, .i 0, .nil] [(0, 1, .i 22), (3, 1, t53)] fun t54 =>
abx [.i 0, .s ⟨#[]⟩, .i 0, .nil] w18 fun t12 w19 =>
ast 4 t12 t54 w19 fun w20 =>
aar .eql t20 (.i 0) fun t56 =>
acnd t56 (aldN 4 t2 w20 fun t58 =>
aldN 4 t12 w20 fun t59 =>
acallW pr 8 [t58, t59] w20 (apn R) fun t60 w21 =>
acnd t60 (aar .eql t27 (.i 0) fun t64 =>
acnd t64 (afld 0 t4 fun t67 =>
ald1 t67 w21 fun t68 =>
aar .eql t68 (.i 21) fun t69 =>
acnd t69 (afld 3 t4 fun t72 =>
ald1 t72 w21 fun t73 =>
alenL t73 fun t74 =>
aar .eql t74 (.i 2) fun t75 =>
acnd t75 (afld 3 t4 fun t78 =>
ald1 t78 w21 fun t79 =>
aidxS 4 t79 (.i 1) fun t80 =>
afld 0 t80 fun t81 =>
ald1 t81 w21 fun t82 =>
aar .eql t82 (.i 22) fun t83 =>
acnd t83 (aar .eql t33 (.i 0) fun t87 =>
acnd t87 (alenL t32 fun t91 =>
aar .eql t91 (.i 3) fun t92 =>
acnd t92 (aidxS 6 t32 (.i 2) fun t96 =>
afld 1 t96 fun t97 =>
ald1 t97 w21 fun t98 =>
aar .eql t98 (.i (-1)) fun t99 =>
acnd t99 (aar .eql t40 (.i 1) fun t103 =>
acnd t103 (aar .eql t50 (.i 3) fun t107 =>
R (.ret t107) w21) (R (.ret (.b false)) w21)) (R (.ret (.b false)) w21)) (R (.ret (.b false)) w21)) (R (.ret (.b false)) w21)) (R (.ret (.b false)) w21)) (R (.ret (.b false)) w21)) (R (.ret (.b false)) w21)) (R (.ret (.b false)) w21)) (R (.ret (.b false)) w21)) (R (.ret (.b false)) w20)
theorem A5_eq : A5 = fun  L R => aex pr ⟨[], [(6, [(0, 0), (1, 0), (2, 0), (3, 0), (4, 0), (5, 0), (6, 0), (7, 0), (8, 0), (9, 0), (10, 3), (11, 2), (12, 2)])]⟩ (bodyOf fn5) (aenv0 []) L (apost pr fn5.results.toList R) := by kernel_rfl
theorem s5 {L : List Bx} {R : AE → List Bx → Prop} (h : A5  L R) : ASpec pr 5 [] L R :=
  aspec_of (A := ⟨[], [(6, [(0, 0), (1, 0), (2, 0), (3, 0), (4, 0), (5, 0), (6, 0), (7, 0), (8, 0), (9, 0), (10, 3), (11, 2), (12, 2)])]⟩) (fn := fn5) 0 mixed Tryd.func5 (by kernel_rfl) (by decide) rfl (by kernel_rfl) (by rw [A5_eq] at h; exact h)
noncomputable abbrev fn4 : Func := Tryd.f4
/- ashlar/ashlarlaw19.HornIdle -/
def A4a (a0 a1 a2 : D) (L : List Bx) (R : AE → List Bx → Prop) : Prop :=
abxv a0 L fun t3 w1 =>
abxv a1 w1 fun t4 w2 =>
acallW pr 5 [] w2 (apn R) fun t14 w3 =>
ajn (fun v4 w4 =>
aar .and a2 (.i 65535) fun t26 =>
afld 5 t3 fun t27 =>
ald1 t27 w4 fun t28 =>
alenL t28 fun t29 =>
aar .rem t26 t29 fun t30 =>
abldS 42 9 0 [] [] w4 fun t31 w5 =>
afld 5 t3 fun t32 =>
ald1 t32 w5 fun t33 =>
aapp 42 9 144 t31 t33 w5 fun t34 w6 =>
afld 5 t3 fun t35 =>
ast 1 t35 t34 w6 fun w7 =>
alp [.i 0] w7 fun v7 w8 k7 =>
afld 5 t3 fun t37 =>
ald1 t37 w8 fun t38 =>
alenL t38 fun t39 =>
aar .lss (aix v7 0) t39 fun t40 =>
acnd t40 (afld 5 t3 fun t43 =>
ald1 t43 w8 fun t44 =>
aidxS 9 t44 (aix v7 0) fun t46 =>
afld 7 t46 fun t47 =>
ast 1 t47 (.nil) w8 fun w9 =>
afld 5 t3 fun t48 =>
ald1 t48 w9 fun t49 =>
aidxS 9 t49 (aix v7 0) fun t51 =>
afld 8 t51 fun t52 =>
ast 1 t52 (.nil) w9 fun w10 =>
aar .add (aix v7 0) (.i 1) fun t42 =>
k7 [t42] w10) (aldN 11 t3 w8 fun t54 =>
aldN 4 t4 w8 fun t56 =>
acallW pr 9 [t54, t30, t56] w8 (apn R) fun t57 w11 =>
aext 0 t57 fun t58 =>
aext 1 t57 fun t59 =>
abx [.i 0, .s ⟨#[]⟩, .i 0, .nil] w11 fun t9 w12 =>
ast 4 t9 t58 w12 fun w13 =>
aar .neq t59 (.i 0) fun t61 =>
acnd t61 (R (.ret t14) w13) (abld [.i 0, .s ⟨#[]⟩, .i 0, .nil] [(0, 1, .i 16)] fun t63 =>
abld [.nil, .nil, .nil, .nil, .nil, .nil, .i 0, .s ⟨#[]⟩, .i 0, .nil, .nil] [(6, 4, t63)] fun t64 =>
abx [.nil, .nil, .nil, .nil, .nil, .nil, .i 0, .s ⟨#[]⟩, .i 0, .nil, .nil] w13 fun t11 w14 =>
ast 11 t11 t64 w14 fun w15 =>
aldN 11 t11 w15 fun t66 =>
aldN 4 t4 w15 fun t67 =>
acallW pr 10 [t66, t67] w15 (apn R) fun t68 w16 =>
aext 0 t68 fun t69 =>
aext 1 t68 fun t70 =>
abx [.i 0, .s ⟨#[]⟩, .i 0, .nil] w16 fun t12 w17 =>
ast 4 t12 t69 w17 fun w18 =>
acnd t14 (afld 0 t9 fun t73 =>
ald1 t73 w18 fun t74 =>
aar .eql t74 (.i 21) fun t75 =>
acnd t75 (afld 3 t9 fun t78 =>
ald1 t78 w18 fun t79 =>
alenL t79 fun t80 =>
aar .eql t80 (.i 2) fun t81 =>
acnd t81 (afld 3 t9 fun t84 =>
ald1 t84 w18 fun t85 =>
aidxS 4 t85 (.i 1) fun t86 =>
aldN 4 t86 w18 fun t87 =>
aldN 4 t4 w18 fun t88 =>
acallS pr 8 [t87, t88] w18 (fun _ _ => False) fun t89 w19 =>
acnd t89 (afld 3 t9 fun t92 =>
ald1 t92 w19 fun t93 =>
aidxS 4 t93 (.i 0) fun t94 =>
afld 3 t94 fun t95 =>
ald1 t95 w19 fun t96 =>
aidxS 4 t96 (.i 0) fun t97 =>
aldN 4 t97 w19 fun t98 =>
afld 5 t3 fun t99 =>
ald1 t99 w19 fun t100 =>
aidxS 9 t100 t30 fun t102 =>
afld 3 t102 fun t103 =>
aldN 4 t103 w19 fun t104 =>
acallS pr 8 [t98, t104] w19 (fun _ _ => False) fun t105 w20 =>
acnd t105 (afld 3 t9 fun t108 =>
ald1 t108 w20 fun t109 =>
aidxS 4 t109 (.i 0) fun t110 =>
afld 3 t110 fun t111 =>
ald1 t111 w20 fun t112 =>
alenL t112 fun t113 =>
aar .eql t113 (.i 1) fun t114 =>
afld 5 t3 fun t115 =>
ald1 t115 w20 fun t116 =>
aidxS 9 t116 t30 fun t118 =>
afld 0 t118 fun t119 =>
ald1 t119 w20 fun t120 =>
aarB .eql t114 t120 fun t121 =>
acnd t121 (aar .eql t70 (.i 0) fun t125 =>
acnd t125 (aldN 4 t12 w20 fun t128 =>
aldN 4 t4 w20 fun t129 =>
acallS pr 8 [t128, t129] w20 (fun _ _ => False) fun t130 w21 =>
R (.ret t130) w21) (False)) (False)) (False)) (False)) (False)) (False)) (False)))) fun j4 =>
aldN 11 t3 w3 fun t15 =>
acallW pr 6 [t15] w3 (apn R) fun t16 w22 =>
aar .neq t16 (.i 0) fun t17 =>
acnd t17 (R (.ret t14) w22) (afld 5 t3 fun t19 =>
ald1 t19 w22 fun t20 =>
alenL t20 fun t21 =>
aar .eql t21 (.i 0) fun t22 =>
acnd t22 (R (.ret t14) w22) (j4 [] w22))
theorem A4a_eq : A4a = fun a0 a1 a2 L R => aex pr ⟨[(8, []), (15, [8])], [(16, [(0, 0), (1, 0), (2, 10), (3, 0), (4, 0), (5, 0), (6, 0), (7, 10), (8, 0), (9, 0), (10, 0), (11, 0), (12, 0), (13, 10), (14, 0), (15, 0), (16, 0), (17, 0), (18, 0), (19, 0), (20, 0), (21, 10), (22, 0), (23, 0), (24, 0), (25, 0), (26, 0), (27, 0), (28, 0), (29, 0), (30, 0), (31, 0), (32, 0), (33, 0), (34, 0), (35, 0), (36, 0), (37, 10), (38, 0), (39, 0), (40, 0), (41, 0), (42, 0), (43, 0), (44, 0), (45, 0), (46, 0), (47, 0), (48, 0), (49, 0), (50, 0), (51, 0), (52, 0), (53, 10), (54, 0), (55, 0), (56, 0), (57, 10), (58, 0), (59, 0), (60, 0), (61, 2)])]⟩ (bodyOf fn4) (aenv0 [a0, a1, a2]) L (apost pr fn4.results.toList R) := by kernel_rfl
theorem s4a {a0 a1 a2 : D} {L : List Bx} {R : AE → List Bx → Prop} (h : A4a a0 a1 a2 L R) : ASpec pr 4 [a0, a1, a2] L R :=
  aspec_of (A := ⟨[(8, []), (15, [8])], [(16, [(0, 0), (1, 0), (2, 10), (3, 0), (4, 0), (5, 0), (6, 0), (7, 10), (8, 0), (9, 0), (10, 0), (11, 0), (12, 0), (13, 10), (14, 0), (15, 0), (16, 0), (17, 0), (18, 0), (19, 0), (20, 0), (21, 10), (22, 0), (23, 0), (24, 0), (25, 0), (26, 0), (27, 0), (28, 0), (29, 0), (30, 0), (31, 0), (32, 0), (33, 0), (34, 0), (35, 0), (36, 0), (37, 10), (38, 0), (39, 0), (40, 0), (41, 0), (42, 0), (43, 0), (44, 0), (45, 0), (46, 0), (47, 0), (48, 0), (49, 0), (50, 0), (51, 0), (52, 0), (53, 10), (54, 0), (55, 0), (56, 0), (57, 10), (58, 0), (59, 0), (60, 0), (61, 2)])]⟩) (fn := fn4) 3 mixed Tryd.func4 (by kernel_rfl) (by decide) rfl (by kernel_rfl) (by rw [A4a_eq] at h; exact h)
end Go.Proofs.YtdalobojhfafbaaDoor
