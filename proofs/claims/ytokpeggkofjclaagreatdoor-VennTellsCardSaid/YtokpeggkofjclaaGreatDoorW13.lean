/- What must hold ahead of a call, function by function: printed by a program. -/
import Derived.Test.YtokpeggkofjclaaGreatDoorW11
import Derived.KernelRfl
set_option maxRecDepth 100000
set_option linter.unusedVariables false
namespace Go.Proofs.YtokpeggkofjclaaGreatDoor
open Go Go.V
noncomputable abbrev fn13 : Func := Tryz.f13
def K13 (t6 t7 : D) (R : AE → List Bx → Prop) (m : Option D) (L : List Bx) : Prop :=
ADef pr 36 [t6, t7] m L fun m w => aend R m w (aldN 2 t6 w fun r0 =>
ald1 t7 w fun r1 =>
R (.ret (.tuple [r0, r1])) w)
/- (ashlar/venn.Plan).Row -/
def A13 (a0 a1 a2 : D) (L : List Bx) (R : AE → List Bx → Prop) : Prop :=
abxv a0 L fun t3 w1 =>
abxv a1 w1 fun t4 w2 =>
abx [.nil, .i 0] w2 fun t6 w3 =>
abx [.i 0] w3 fun t7 w4 =>
aldN 4 t4 w4 fun t14 =>
acallW pr 31 [t14] w4 (apn R) fun t15 w5 =>
aext 0 t15 fun t16 =>
aext 1 t15 fun t17 =>
aar .neq t17 (.i 0) fun t19 =>
acnd t19 (abld [.nil, .i 0] [] fun t25 =>
ast 2 t6 t25 w5 fun w6 =>
ast 1 t7 (.i 1) w6 fun w7 =>
aldN 2 t6 w7 fun r0 =>
ald1 t7 w7 fun r1 =>
R (.ret (.tuple [r0, r1])) w7) (afld 0 t4 fun t21 =>
ald1 t21 w5 fun t22 =>
aar .neq t22 (.i 22) fun t23 =>
acnd t23 (abld [.nil, .i 0] [] fun t25 =>
ast 2 t6 t25 w5 fun w8 =>
ast 1 t7 (.i 1) w8 fun w9 =>
aldN 2 t6 w9 fun r0 =>
ald1 t7 w9 fun r1 =>
R (.ret (.tuple [r0, r1])) w9) (aldN 3 t3 w5 fun t27 =>
afld 3 t4 fun t28 =>
ald1 t28 w5 fun t29 =>
aidxS 4 t29 (.i 0) fun t30 =>
aldN 4 t30 w5 fun t31 =>
acallS pr 37 [t27, t31] w5 (fun c w => K13 t6 t7 R (some c) w) fun t32 w10 =>
abx [.nil, .i 0] w10 fun t10 w11 =>
ast 2 t10 t32 w11 fun w12 =>
aldN 3 t3 w12 fun t33 =>
afld 3 t4 fun t34 =>
ald1 t34 w12 fun t35 =>
aidxS 4 t35 (.i 1) fun t36 =>
aldN 4 t36 w12 fun t37 =>
acallS pr 37 [t33, t37] w12 (fun c w => K13 t6 t7 R (some c) w) fun t38 w13 =>
abx [.nil, .i 0] w13 fun t11 w14 =>
ast 2 t11 t38 w14 fun w15 =>
acnd a2 (aldN 2 t10 w15 fun t40 =>
aldN 2 t11 w15 fun t41 =>
acallW pr 38 [t40, t41, .fn 39 [] []] w15 (fun c w => K13 t6 t7 R (some c) w) fun t42 w16 =>
ast 2 t6 t42 w16 fun w17 =>
ast 1 t7 (.i 0) w17 fun w18 =>
K13 t6 t7 R none w18) (aldN 3 t3 w15 fun t43 =>
acallW pr 40 [t43, .i 0, .i 1, .fn 41 [] []] w15 (fun c w => K13 t6 t7 R (some c) w) fun t44 w19 =>
abx [.nil, .i 0] w19 fun t12 w20 =>
ast 2 t12 t44 w20 fun w21 =>
aldN 2 t11 w21 fun t45 =>
aldN 2 t10 w21 fun t46 =>
aldN 2 t12 w21 fun t48 =>
acallS pr 38 [t45, t46, .fn 39 [] []] w21 (fun c w => K13 t6 t7 R (some c) w) fun t47 w22 =>
acallS pr 38 [t47, t48, .fn 42 [] []] w22 (fun c w => K13 t6 t7 R (some c) w) fun t49 w23 =>
ast 2 t6 t49 w23 fun w24 =>
ast 1 t7 (.i 0) w24 fun w25 =>
K13 t6 t7 R none w25)))
theorem A13_eq : A13 = fun a0 a1 a2 L R => aexD pr ⟨[], [(5, [(0, 0), (1, 0), (2, 0), (3, 0), (4, 0), (5, 6), (6, 3), (7, 2)]), (6, [(0, 0), (1, 0), (2, 0), (3, 0), (4, 0), (5, 6), (6, 3), (7, 2)]), (10, [(0, 0), (1, 0), (3, 0), (2, 1), (4, 1), (5, 2), (6, 2)])]⟩ fn13.results.toList R (bodyOf fn13) (aenv0 [a0, a1, a2]) L := by kernel_rfl
theorem s13 {a0 a1 a2 : D} {L : List Bx} {R : AE → List Bx → Prop} (h : A13 a0 a1 a2 L R) : ASpec pr 13 [a0, a1, a2] L R :=
  aspec_ofD (A := ⟨[], [(5, [(0, 0), (1, 0), (2, 0), (3, 0), (4, 0), (5, 6), (6, 3), (7, 2)]), (6, [(0, 0), (1, 0), (2, 0), (3, 0), (4, 0), (5, 6), (6, 3), (7, 2)]), (10, [(0, 0), (1, 0), (3, 0), (2, 1), (4, 1), (5, 2), (6, 2)])]⟩) (fn := fn13) 3 mixed Tryz.func13 (by kernel_rfl) (by decide) rfl (by kernel_rfl) (by rw [A13_eq] at h; exact h)
end Go.Proofs.YtokpeggkofjclaaGreatDoor
/- What must hold ahead of a call, function by function: printed by a program. -/
set_option maxRecDepth 100000
set_option linter.unusedVariables false
namespace Go.Proofs.YtokpeggkofjclaaGreatDoor
open Go Go.V
noncomputable abbrev fn9 : Func := Tryz.f9
/- ashlar/ashlarlaw13.shown -/
def A9 (L : List Bx) (R : AE → List Bx → Prop) : Prop :=
acallW pr 30 [] L (apn R) fun t10 w1 =>
acallW pr 10 [t10] w1 (apn R) fun t11 w2 =>
aext 0 t11 fun t12 =>
aext 1 t11 fun t13 =>
abx [.nil, .nil, .nil] w2 fun t1 w3 =>
ast 3 t1 t12 w3 fun w4 =>
aldN 3 t1 w4 fun t15 =>
acallS pr 30 [] w4 (fun _ _ => False) fun t16 w5 =>
acallS pr 13 [t15, t16, .b true] w5 (fun _ _ => False) fun t17 w6 =>
aext 0 t17 fun t18 =>
aext 1 t17 fun t19 =>
abx [.nil, .i 0] w6 fun t3 w7 =>
ast 2 t3 t18 w7 fun w8 =>
aldN 3 t1 w8 fun t21 =>
abldS 2 1 3 [.i 0, .i 0, .i 0] [(0, 1, .i 1), (1, 1, .i 2), (2, 1, .i 7)] w8 fun t22 w9 =>
acallW pr 17 [t21, t22] w9 (apn R) fun t23 w10 =>
aext 0 t23 fun t24 =>
aext 1 t23 fun t25 =>
abx [.i 0, .nil] w10 fun t5 w11 =>
ast 2 t5 t24 w11 fun w12 =>
aldN 3 t1 w12 fun t27 =>
aldN 2 t5 w12 fun t28 =>
acallW pr 15 [t27, t28] w12 (apn R) fun t29 w13 =>
aext 0 t29 fun t30 =>
aext 1 t29 fun t31 =>
aar .eql t13 (.i 0) fun t33 =>
ajn (fun y37 w14 =>
ajn (fun y41 w15 =>
ajn (fun y45 w16 =>
ajn (fun y50 w17 =>
ajn (fun y55 w18 =>
ajn (fun y61 w19 =>
ajn (fun y68 w20 =>
ajn (fun y75 w21 =>
ajn (fun y82 w22 =>
ajn (fun y87 w23 =>
ajn (fun y93 w24 =>
ajn (fun y98 w25 =>
ajn (fun y103 w26 =>
ajn (fun y109 w27 =>
ajn (fun y115 w28 =>
ajn (fun y121 w29 =>
R (.ret (aix y121 0)) w29) fun j121 =>
acnd (aix y115 0) (aidxS 1 t30 (.i 2) fun t118 =>
ald1 t118 w28 fun t119 =>
aar .eql t119 (.i 7) fun t120 =>
j121 [t120] w28) (j121 [.b false] w28)) fun j115 =>
acnd (aix y109 0) (aidxS 1 t30 (.i 1) fun t112 =>
ald1 t112 w27 fun t113 =>
aar .eql t113 (.i 2) fun t114 =>
j115 [t114] w27) (j115 [.b false] w27)) fun j109 =>
acnd (aix y103 0) (aidxS 1 t30 (.i 0) fun t106 =>
ald1 t106 w26 fun t107 =>
aar .eql t107 (.i 1) fun t108 =>
j109 [t108] w26) (j109 [.b false] w26)) fun j103 =>
acnd (aix y98 0) (alenL t30 fun t101 =>
aar .eql t101 (.i 3) fun t102 =>
j103 [t102] w25) (j103 [.b false] w25)) fun j98 =>
acnd (aix y93 0) (afld 0 t5 fun t95 =>
ald1 t95 w24 fun t96 =>
aar .eql t96 (.i 3) fun t97 =>
j98 [t97] w24) (j98 [.b false] w24)) fun j93 =>
acnd (aix y87 0) (aldN 3 t1 w23 fun t89 =>
acallW pr 24 [t89] w23 (apn R) fun t90 w30 =>
alenL t90 fun t91 =>
aar .eql t91 (.i 3) fun t92 =>
j93 [t92] w30) (j93 [.b false] w23)) fun j87 =>
acnd (aix y82 0) (afld 1 t3 fun t84 =>
ald1 t84 w22 fun t85 =>
aar .eql t85 (.i 0) fun t86 =>
j87 [t86] w22) (j87 [.b false] w22)) fun j82 =>
acnd (aix y75 0) (afld 0 t3 fun t77 =>
ald1 t77 w21 fun t78 =>
aidxS 1 t78 (.i 2) fun t79 =>
ald1 t79 w21 fun t80 =>
aar .eql t80 (.i 1) fun t81 =>
j82 [t81] w21) (j82 [.b false] w21)) fun j75 =>
acnd (aix y68 0) (afld 0 t3 fun t70 =>
ald1 t70 w20 fun t71 =>
aidxS 1 t71 (.i 1) fun t72 =>
ald1 t72 w20 fun t73 =>
aar .eql t73 (.i (-1)) fun t74 =>
j75 [t74] w20) (j75 [.b false] w20)) fun j68 =>
acnd (aix y61 0) (afld 0 t3 fun t63 =>
ald1 t63 w19 fun t64 =>
aidxS 1 t64 (.i 0) fun t65 =>
ald1 t65 w19 fun t66 =>
aar .eql t66 (.i 1) fun t67 =>
j68 [t67] w19) (j68 [.b false] w19)) fun j61 =>
acnd (aix y55 0) (afld 0 t3 fun t57 =>
ald1 t57 w18 fun t58 =>
alenL t58 fun t59 =>
aar .eql t59 (.i 3) fun t60 =>
j61 [t60] w18) (j61 [.b false] w18)) fun j55 =>
acnd (aix y50 0) (aldN 3 t1 w17 fun t52 =>
acallW pr 21 [t52] w17 (apn R) fun t53 w31 =>
aar .eql t53 (.i 3) fun t54 =>
j55 [t54] w31) (j55 [.b false] w17)) fun j50 =>
acnd (aix y45 0) (aldN 3 t1 w16 fun t47 =>
acallW pr 19 [t47] w16 (apn R) fun t48 w32 =>
aar .eql t48 (.i 2) fun t49 =>
j50 [t49] w32) (j50 [.b false] w16)) fun j45 =>
acnd (aix y41 0) (aar .eql t31 (.i 0) fun t44 =>
j45 [t44] w15) (j45 [.b false] w15)) fun j41 =>
acnd (aix y37 0) (aar .eql t25 (.i 0) fun t40 =>
j41 [t40] w14) (j41 [.b false] w14)) fun j37 =>
acnd t33 (aar .eql t19 (.i 0) fun t36 =>
j37 [t36] w13) (j37 [.b false] w13)
theorem A9_eq : A9 = fun  L R => aex pr ⟨[(3000037, []), (3000041, []), (3000045, []), (3000050, []), (3000055, []), (3000061, []), (3000068, []), (3000075, []), (3000082, []), (3000087, []), (3000093, []), (3000098, []), (3000103, []), (3000109, []), (3000115, []), (3000121, [])], [(2, [(0, 0), (1, 0), (2, 0), (3, 0), (4, 0), (5, 0), (6, 3), (7, 2), (8, 2)])]⟩ (bodyOf fn9) (aenv0 []) L (apost pr fn9.results.toList R) := by kernel_rfl
theorem s9 {L : List Bx} {R : AE → List Bx → Prop} (h : A9  L R) : ASpec pr 9 [] L R :=
  aspec_of (A := ⟨[(3000037, []), (3000041, []), (3000045, []), (3000050, []), (3000055, []), (3000061, []), (3000068, []), (3000075, []), (3000082, []), (3000087, []), (3000093, []), (3000098, []), (3000103, []), (3000109, []), (3000115, []), (3000121, [])], [(2, [(0, 0), (1, 0), (2, 0), (3, 0), (4, 0), (5, 0), (6, 3), (7, 2), (8, 2)])]⟩) (fn := fn9) 0 mixed Tryz.func9 (by kernel_rfl) (by decide) rfl (by kernel_rfl) (by rw [A9_eq] at h; exact h)
end Go.Proofs.YtokpeggkofjclaaGreatDoor
