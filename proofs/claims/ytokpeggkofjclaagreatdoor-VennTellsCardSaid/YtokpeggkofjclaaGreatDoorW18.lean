/- What must hold ahead of a call, function by function: printed by a program. -/
import Derived.Test.YtokpeggkofjclaaGreatDoorW17
import Derived.KernelRfl
set_option maxRecDepth 100000
set_option linter.unusedVariables false
namespace Go.Proofs.YtokpeggkofjclaaGreatDoor
open Go Go.V
noncomputable abbrev fn3 : Func := Tryz.f3
/- ashlar/ashlarlaw13.VennTells -/
def A3 (a0 a1 a2 a3 a4 : D) (L : List Bx) (R : AE → List Bx → Prop) : Prop :=
abxv a0 L fun t5 w1 =>
abxv a1 w1 fun t6 w2 =>
abxv a3 w2 fun t8 w3 =>
acallW pr 9 [] w3 (apn R) fun t28 w4 =>
aldN 4 t5 w4 fun t30 =>
acallW pr 10 [t30] w4 (apn R) fun t31 w5 =>
aext 0 t31 fun t32 =>
aext 1 t31 fun t33 =>
abx [.nil, .nil, .nil] w5 fun t12 w6 =>
ast 3 t12 t32 w6 fun w7 =>
aldN 4 t5 w7 fun t35 =>
acallW pr 11 [t35] w7 (apn R) fun t36 w8 =>
aext 0 t36 fun t37 =>
aext 1 t36 fun t38 =>
abx [.nil, .nil, .nil] w8 fun t14 w9 =>
ast 3 t14 t37 w9 fun w10 =>
ajn (fun v6 w11 =>
aldN 3 t12 w11 fun t67 =>
aldN 4 t6 w11 fun t68 =>
acallW pr 13 [t67, t68, a2] w11 (apn R) fun t70 w12 =>
aext 0 t70 fun t71 =>
aext 1 t70 fun t72 =>
abx [.nil, .i 0] w12 fun t16 w13 =>
ast 2 t16 t71 w13 fun w14 =>
aldN 3 t14 w14 fun t74 =>
aldN 4 t6 w14 fun t75 =>
acallW pr 14 [t74, t75, a2] w14 (apn R) fun t77 w15 =>
aext 0 t77 fun t78 =>
aext 1 t77 fun t79 =>
abx [.nil, .i 0] w15 fun t18 w16 =>
ast 2 t18 t78 w16 fun w17 =>
aldN 3 t12 w17 fun t81 =>
aldN 2 t8 w17 fun t82 =>
acallW pr 15 [t81, t82] w17 (apn R) fun t83 w18 =>
aext 0 t83 fun t84 =>
aext 1 t83 fun t85 =>
aldN 3 t14 w18 fun t87 =>
aldN 2 t8 w18 fun t88 =>
acallW pr 16 [t87, t88] w18 (apn R) fun t89 w19 =>
aext 0 t89 fun t90 =>
aext 1 t89 fun t91 =>
aldN 3 t12 w19 fun t93 =>
acallW pr 17 [t93, a4] w19 (apn R) fun t95 w20 =>
aext 0 t95 fun t96 =>
aext 1 t95 fun t97 =>
abx [.i 0, .nil] w20 fun t24 w21 =>
ast 2 t24 t96 w21 fun w22 =>
aldN 3 t14 w22 fun t99 =>
acallW pr 18 [t99, a4] w22 (apn R) fun t101 w23 =>
aext 0 t101 fun t102 =>
aext 1 t101 fun t103 =>
abx [.i 0, .nil] w23 fun t26 w24 =>
ast 2 t26 t102 w24 fun w25 =>
acnd t28 (aldN 3 t12 w25 fun t106 =>
acallS pr 19 [t106] w25 (fun _ _ => False) fun t107 w26 =>
aldN 3 t14 w26 fun t108 =>
acallS pr 20 [t108] w26 (fun _ _ => False) fun t109 w27 =>
aar .eql t107 t109 fun t110 =>
acnd t110 (aldN 3 t12 w27 fun t113 =>
acallS pr 21 [t113] w27 (fun _ _ => False) fun t114 w28 =>
aldN 3 t14 w28 fun t115 =>
acallS pr 22 [t115] w28 (fun _ _ => False) fun t116 w29 =>
aar .eql t114 t116 fun t117 =>
acnd t117 (aldN 3 t12 w29 fun t120 =>
acallS pr 24 [t120] w29 (fun _ _ => False) fun t121 w30 =>
aldN 3 t14 w30 fun t122 =>
acallS pr 25 [t122] w30 (fun _ _ => False) fun t123 w31 =>
acallS pr 23 [t121, t123] w31 (fun _ _ => False) fun t124 w32 =>
acnd t124 (aldN 2 t16 w32 fun t127 =>
abldF 2 1 [.nil, .i 0] [(0, 2, t127)] fun t128 =>
aldN 2 t18 w32 fun t129 =>
abldF 2 1 [.nil, .i 0] [(0, 2, t129)] fun t130 =>
acallS pr 23 [t128, t130] w32 (fun _ _ => False) fun t131 w33 =>
acnd t131 (aar .eql t72 t79 fun t136 =>
acnd t136 (acallS pr 26 [t84, t90] w33 (fun _ _ => False) fun t141 w34 =>
acnd t141 (aar .eql t85 t91 fun t146 =>
acnd t146 (aldN 2 t24 w34 fun t149 =>
aldN 2 t26 w34 fun t150 =>
acallS pr 27 [t149, t150] w34 (fun _ _ => False) fun t151 w35 =>
acnd t151 (aar .eql t97 t103 fun t156 =>
R (.ret t156) w35) (R (.ret (.b false)) w35)) (R (.ret (.b false)) w34)) (R (.ret (.b false)) w34)) (R (.ret (.b false)) w33)) (R (.ret (.b false)) w33)) (R (.ret (.b false)) w32)) (R (.ret (.b false)) w29)) (R (.ret (.b false)) w27)) (R (.ret (.b false)) w25)) fun j6 =>
aar .neq t33 t38 fun t41 =>
ajn (fun y49 w36 =>
ajn (fun y57 w37 =>
acnd (aix y57 0) (R (.ret (.b false)) w37) (afld 2 t12 fun t59 =>
ald1 t59 w37 fun t60 =>
afld 2 t14 fun t61 =>
ald1 t61 w37 fun t62 =>
acallW pr 12 [t60, t62] w37 (apn R) fun t63 w38 =>
anotb t63 fun t64 =>
acnd t64 (R (.ret (.b false)) w38) (j6 [] w38))) fun j57 =>
acnd (aix y49 0) (j57 [.b true] w36) (afld 1 t12 fun t51 =>
ald1 t51 w36 fun t52 =>
afld 1 t14 fun t53 =>
ald1 t53 w36 fun t54 =>
acallW pr 12 [t52, t54] w36 (apn R) fun t55 w39 =>
anotb t55 fun t56 =>
j57 [t56] w39)) fun j49 =>
acnd t41 (j49 [.b true] w10) (afld 0 t12 fun t43 =>
ald1 t43 w10 fun t44 =>
afld 0 t14 fun t45 =>
ald1 t45 w10 fun t46 =>
acallW pr 12 [t44, t46] w10 (apn R) fun t47 w40 =>
anotb t47 fun t48 =>
j49 [t48] w40)
theorem A3_eq : A3 = fun a0 a1 a2 a3 a4 L R => aex pr ⟨[(12, []), (3000049, []), (3000057, [])], [(12, [(0, 0), (1, 0), (2, 0), (3, 0), (4, 0), (5, 0), (6, 0), (7, 0), (8, 0), (9, 0), (10, 0), (11, 0), (12, 0), (13, 0), (14, 0), (15, 0), (16, 0), (17, 0), (18, 0), (19, 0), (20, 0), (21, 0), (22, 0), (23, 0), (24, 0), (25, 0), (26, 0), (27, 0), (28, 0), (29, 0), (30, 0), (31, 0), (32, 0), (33, 0), (34, 0), (35, 0), (36, 0), (37, 0), (38, 0), (39, 0), (40, 0), (41, 0), (42, 0), (43, 0), (44, 0), (45, 0), (46, 0), (47, 0), (48, 0), (49, 0), (50, 0), (51, 0), (52, 0), (53, 0), (54, 2)])]⟩ (bodyOf fn3) (aenv0 [a0, a1, a2, a3, a4]) L (apost pr fn3.results.toList R) := by kernel_rfl
theorem s3 {a0 a1 a2 a3 a4 : D} {L : List Bx} {R : AE → List Bx → Prop} (h : A3 a0 a1 a2 a3 a4 L R) : ASpec pr 3 [a0, a1, a2, a3, a4] L R :=
  aspec_of (A := ⟨[(12, []), (3000049, []), (3000057, [])], [(12, [(0, 0), (1, 0), (2, 0), (3, 0), (4, 0), (5, 0), (6, 0), (7, 0), (8, 0), (9, 0), (10, 0), (11, 0), (12, 0), (13, 0), (14, 0), (15, 0), (16, 0), (17, 0), (18, 0), (19, 0), (20, 0), (21, 0), (22, 0), (23, 0), (24, 0), (25, 0), (26, 0), (27, 0), (28, 0), (29, 0), (30, 0), (31, 0), (32, 0), (33, 0), (34, 0), (35, 0), (36, 0), (37, 0), (38, 0), (39, 0), (40, 0), (41, 0), (42, 0), (43, 0), (44, 0), (45, 0), (46, 0), (47, 0), (48, 0), (49, 0), (50, 0), (51, 0), (52, 0), (53, 0), (54, 2)])]⟩) (fn := fn3) 5 mixed Tryz.func3 (by kernel_rfl) (by decide) rfl (by kernel_rfl) (by rw [A3_eq] at h; exact h)
end Go.Proofs.YtokpeggkofjclaaGreatDoor
