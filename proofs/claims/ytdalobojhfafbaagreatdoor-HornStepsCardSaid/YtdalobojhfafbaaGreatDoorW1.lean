/- What must hold ahead of a call, function by function: printed by a program. -/
import Derived.Test.YtdalobojhfafbaaGreatDoorProg
import Derived.Test.YtdalobojhfafbaaGreatDoorA11
import Derived.KernelRfl
set_option maxRecDepth 100000
set_option linter.unusedVariables false
namespace Go.Proofs.YtdalobojhfafbaaGreatDoor
open Go Go.V
noncomputable abbrev pr : Program := Tryz.prog
theorem mixed : pr.follows .mixedOrders = true := by kernel_rfl
noncomputable abbrev fn108 : Func := Tryz.f108
def A108 (a0 a1 a2 : D) (L : List Bx) (R : AE → List Bx → Prop) : Prop :=
abxv a1 L fun t4 w1 =>
anilc a0 fun t9 =>
afld 0 t9 fun t10 =>
ald1 t10 w1 fun t11 =>
aar .add t11 (.i 1) fun t12 =>
anilc a0 fun t13 =>
afld 0 t13 fun t14 =>
ast 1 t14 t12 w1 fun w2 =>
anilc a0 fun t17 =>
afld 1 t17 fun t18 =>
ald1 t18 w2 fun t19 =>
amax2 t19 a2 fun t21 =>
anilc a0 fun t22 =>
afld 1 t22 fun t23 =>
ast 1 t23 t21 w2 fun w3 =>
afld 3 t4 fun t24 =>
ald1 t24 w3 fun t25 =>
alenL t25 fun t26 =>
alp [.i 0] w3 fun v4 w4 k4 =>
aar .lss (aix v4 0) t26 fun t28 =>
acnd t28 (aidxS 4 t25 (aix v4 0) fun t29 =>
aldN 4 t29 w4 fun t30 =>
abx [.i 0, .s ⟨#[]⟩, .i 0, .nil] w4 fun t7 w5 =>
ast 4 t7 t30 w5 fun w6 =>
anilc a0 fun t32 =>
afld 0 t32 fun t33 =>
ald1 t33 w6 fun t34 =>
aar .gtr t34 (.i 2000) fun t35 =>
acnd t35 (R (.ret (.tuple [])) w6) (aar .gtr a2 (.i 100) fun t38 =>
acnd t38 (R (.ret (.tuple [])) w6) (aldN 4 t7 w6 fun t41 =>
aar .add a2 (.i 1) fun t43 =>
acallW pr 108 [a0, t41, t43] w6 (apn R) fun t44 w7 =>
aar .add (aix v4 0) (.i 1) fun t45 =>
k4 [t45] w7))) (R (.ret (.tuple [])) w4)
theorem A108_eq : A108 = fun a0 a1 a2 L R => aex pr ⟨[(9, [27])], []⟩ (bodyOf fn108) (aenv0 [a0, a1, a2]) L (apost pr fn108.results.toList R) := by kernel_rfl
theorem s108 {a0 a1 a2 : D} {L : List Bx} {R : AE → List Bx → Prop} (h : A108 a0 a1 a2 L R) : ASpec pr 108 [a0, a1, a2] L R :=
  aspec_of (A := ⟨[(9, [27])], []⟩) (fn := fn108) 3 mixed Tryz.func108 (by kernel_rfl) (by decide) rfl (by kernel_rfl) (by rw [A108_eq] at h; exact h)
noncomputable abbrev fn69 : Func := Tryz.f69
def A69 (a0 : D) (L : List Bx) (R : AE → List Bx → Prop) : Prop :=
abxv a0 L fun t1 w1 =>
abld [.i 0, .i 0] [] fun t6 =>
abxv t6 w1 fun t7 w2 =>
ajn (fun v5 w3 =>
acallW pr 109 [] w3 (apn R) fun t23 w4 =>
abx (vals (reps 29 [.int .i64 0, .bool false, .bool false, .slice none 0 0, .bool false])) w4 fun t5 w5 =>
ast 145 t5 t23 w5 fun w6 =>
aldN 4 t1 w6 fun t24 =>
acallW pr 110 [t24, t5, .i 0] w6 (apn R) fun t25 w7 =>
anotb t25 fun t26 =>
acnd t26 (R (.ret (.tuple [.i 0, .i 3])) w7) (afld 0 t1 fun t27 =>
ald1 t27 w7 fun t28 =>
aidxP 29 5 t5 t28 fun t29 =>
afld 0 t29 fun t30 =>
ald1 t30 w7 fun t31 =>
R (.ret (.tuple [t31, .i 0])) w7)) fun j5 =>
aldN 4 t1 w2 fun t9 =>
acallW pr 108 [t7, t9, .i 1] w2 (apn R) fun t10 w8 =>
anilc t7 fun t12 =>
afld 0 t12 fun t13 =>
ald1 t13 w8 fun t14 =>
aar .gtr t14 (.i 2000) fun t15 =>
acnd t15 (R (.ret (.tuple [.i 0, .i 7])) w8) (anilc t7 fun t18 =>
afld 1 t18 fun t19 =>
ald1 t19 w8 fun t20 =>
aar .gtr t20 (.i 100) fun t21 =>
acnd t21 (R (.ret (.tuple [.i 0, .i 7])) w8) (j5 [] w8))
theorem A69_eq : A69 = fun a0 L R => aex pr ⟨[(10, [])], []⟩ (bodyOf fn69) (aenv0 [a0]) L (apost pr fn69.results.toList R) := by kernel_rfl
theorem s69 {a0 : D} {L : List Bx} {R : AE → List Bx → Prop} (h : A69 a0 L R) : ASpec pr 69 [a0] L R :=
  aspec_of (A := ⟨[(10, [])], []⟩) (fn := fn69) 1 mixed Tryz.func69 (by kernel_rfl) (by decide) rfl (by kernel_rfl) (by rw [A69_eq] at h; exact h)
noncomputable abbrev fn109 : Func := Tryz.f109
def A109 (L : List Bx) (R : AE → List Bx → Prop) : Prop :=
abx (vals (reps 29 [.int .i64 0, .bool false, .bool false, .slice none 0 0, .bool false])) L fun t0 w1 =>
abld [.i 0, .b false, .b false, .nil, .b false] [(0, 1, .i 1), (2, 1, .b true)] fun t2 =>
abld [.i 0, .b false, .b false, .nil, .b false] [(0, 1, .i 1), (1, 1, .b true)] fun t3 =>
abldS 3 1 1 [.i 0] [(0, 1, .i 2)] w1 fun t4 w2 =>
abld [.i 0, .b false, .b false, .nil, .b false] [(0, 1, .i 1), (3, 1, t4)] fun t5 =>
acallW pr 157 [.i 1, .i 1] w2 (apn R) fun t7 w3 =>
acallW pr 157 [.i 1, .i 1] w3 (apn R) fun t9 w4 =>
abldS 3 1 1 [.i 0] [(0, 1, .i 1)] w4 fun t10 w5 =>
abld [.i 0, .b false, .b false, .nil, .b false] [(0, 1, .i 1), (2, 1, .b true), (3, 1, t10)] fun t11 =>
abld [.i 0, .b false, .b false, .nil, .b false] [(0, 1, .i 2), (1, 1, .b true)] fun t12 =>
abld [.i 0, .b false, .b false, .nil, .b false] [(0, 1, .i 2)] fun t13 =>
abld [.i 0, .b false, .b false, .nil, .b false] [(0, 1, .i 2)] fun t14 =>
abldS 3 1 1 [.i 0] [(0, 1, .i 3)] w5 fun t15 w6 =>
abld [.i 0, .b false, .b false, .nil, .b false] [(0, 1, .i 2), (3, 1, t15)] fun t16 =>
acallW pr 157 [.i 2, .i 2] w6 (apn R) fun t18 w7 =>
acallW pr 157 [.i 2, .i 2] w7 (apn R) fun t20 w8 =>
acallW pr 157 [.i 2, .i 2] w8 (apn R) fun t22 w9 =>
abld [.i 0, .b false, .b false, .nil, .b false] [(0, 1, .i 3), (1, 1, .b true)] fun t23 =>
abld [.i 0, .b false, .b false, .nil, .b false] [(0, 1, .i 4), (1, 1, .b true)] fun t24 =>
abld [.i 0, .b false, .b false, .nil, .b false] [(0, 1, .i 4)] fun t25 =>
abld [.i 0, .b false, .b false, .nil, .b false] [(0, 1, .i 4)] fun t26 =>
abldS 3 1 1 [.i 0] [(0, 1, .i 4)] w9 fun t27 w10 =>
abld [.i 0, .b false, .b false, .nil, .b false] [(0, 1, .i 4), (3, 1, t27)] fun t28 =>
abldS 3 1 1 [.i 0] [(0, 1, .i 4)] w10 fun t29 w11 =>
abld [.i 0, .b false, .b false, .nil, .b false] [(0, 1, .i 4), (3, 1, t29), (4, 1, .b true)] fun t30 =>
abldS 3 1 1 [.i 0] [(0, 1, .i 4)] w11 fun t31 w12 =>
abld [.i 0, .b false, .b false, .nil, .b false] [(0, 1, .i 4), (3, 1, t31), (4, 1, .b true)] fun t32 =>
acallW pr 157 [.i 4, .i 4] w12 (apn R) fun t34 w13 =>
acallW pr 157 [.i 4, .i 1] w13 (apn R) fun t36 w14 =>
acallW pr 157 [.i 4, .i 1] w14 (apn R) fun t38 w15 =>
acallW pr 157 [.i 4, .i 1] w15 (apn R) fun t40 w16 =>
abldS 3 1 2 [.i 0, .i 0] [(0, 1, .i 3), (1, 1, .i 2)] w16 fun t41 w17 =>
abld [.i 0, .b false, .b false, .nil, .b false] [(0, 1, .i 4), (3, 1, t41)] fun t42 =>
acallW pr 157 [.i 4, .i 2] w17 (apn R) fun t44 w18 =>
acallW pr 157 [.i 4, .i 2] w18 (apn R) fun t46 w19 =>
acallW pr 157 [.i 4, .i 3] w19 (apn R) fun t48 w20 =>
abld (vals (reps 29 [.int .i64 0, .bool false, .bool false, .slice none 0 0, .bool false])) [(5, 5, t2), (10, 5, t3), (15, 5, t5), (20, 5, t7), (25, 5, t9), (30, 5, t11), (35, 5, t12), (40, 5, t13), (45, 5, t14), (50, 5, t16), (55, 5, t18), (60, 5, t20), (65, 5, t22), (70, 5, t23), (75, 5, t24), (80, 5, t25), (85, 5, t26), (90, 5, t28), (95, 5, t30), (100, 5, t32), (105, 5, t34), (110, 5, t36), (115, 5, t38), (120, 5, t40), (125, 5, t42), (130, 5, t44), (135, 5, t46), (140, 5, t48)] fun t49 =>
ast 145 t0 t49 w20 fun w21 =>
aldN 145 t0 w21 fun r0 =>
R (.ret r0) w21
theorem A109_eq : A109 = fun  L R => aex pr ⟨[], []⟩ (bodyOf fn109) (aenv0 []) L (apost pr fn109.results.toList R) := by kernel_rfl
theorem s109 {L : List Bx} {R : AE → List Bx → Prop} (h : A109  L R) : ASpec pr 109 [] L R :=
  aspec_of (A := ⟨[], []⟩) (fn := fn109) 0 mixed Tryz.func109 (by kernel_rfl) (by decide) rfl (by kernel_rfl) (by rw [A109_eq] at h; exact h)
noncomputable abbrev fn110 : Func := Tryz.f110
def A110 (a0 a1 a2 : D) (L : List Bx) (R : AE → List Bx → Prop) : Prop :=
abxv a0 L fun t3 w1 =>
ajn (fun v3 w2 =>
afld 0 t3 fun t19 =>
ald1 t19 w2 fun t20 =>
anilc a1 fun t21 =>
aidxP 29 5 t21 t20 fun t22 =>
aldN 5 t22 w2 fun t23 =>
abx [.i 0, .b false, .b false, .nil, .b false] w2 fun t7 w3 =>
ast 5 t7 t23 w3 fun w4 =>
ajn (fun v6 w5 =>
afld 3 t3 fun t76 =>
ald1 t76 w5 fun t77 =>
alenL t77 fun t78 =>
alp [.i 0] w5 fun v7 w6 k7 =>
aar .lss (aix v7 0) t78 fun t80 =>
acnd t80 (aidxS 4 t77 (aix v7 0) fun t82 =>
aldN 4 t82 w6 fun t83 =>
abx [.i 0, .s ⟨#[]⟩, .i 0, .nil] w6 fun t9 w7 =>
ast 4 t9 t83 w7 fun w8 =>
ajn (fun v11 w9 =>
aldN 4 t9 w9 fun t86 =>
afld 3 t7 fun t88 =>
ald1 t88 w9 fun t89 =>
aidxS 1 t89 (aix v11 0) fun t91 =>
ald1 t91 w9 fun t92 =>
acallS pr 110 [t86, a1, t92] w9 (fun _ _ => False) fun t93 w10 =>
anotb t93 fun t94 =>
acnd t94 (R (.ret (.b false)) w10) (aar .add (aix v7 0) (.i 1) fun t95 =>
k7 [t95] w10)) fun j11 =>
afld 4 t7 fun t84 =>
ald1 t84 w8 fun t85 =>
acnd t85 (j11 [.i 0] w8) (j11 [aix v7 0] w8)) (R (.ret (.b true)) w6)) fun j6 =>
aar .neq a2 (.i 0) fun t25 =>
ajn (fun y31 w11 =>
acnd (aix y31 0) (R (.ret (.b false)) w11) (afld 1 t7 fun t33 =>
ald1 t33 w11 fun t34 =>
ajn (fun y40 w12 =>
acnd (aix y40 0) (R (.ret (.b false)) w12) (afld 1 t7 fun t43 =>
ald1 t43 w12 fun t44 =>
anotb t44 fun t45 =>
ajn (fun y50 w13 =>
acnd (aix y50 0) (R (.ret (.b false)) w13) (afld 2 t7 fun t53 =>
ald1 t53 w13 fun t54 =>
anotb t54 fun t55 =>
ajn (fun y60 w14 =>
acnd (aix y60 0) (R (.ret (.b false)) w14) (afld 4 t7 fun t63 =>
ald1 t63 w14 fun t64 =>
anotb t64 fun t65 =>
ajn (fun y74 w15 =>
acnd (aix y74 0) (R (.ret (.b false)) w15) (j6 [] w15)) fun j74 =>
acnd t65 (afld 3 t3 fun t67 =>
ald1 t67 w14 fun t68 =>
alenL t68 fun t69 =>
afld 3 t7 fun t70 =>
ald1 t70 w14 fun t71 =>
alenL t71 fun t72 =>
aar .neq t69 t72 fun t73 =>
j74 [t73] w14) (j74 [.b false] w14))) fun j60 =>
acnd t55 (afld 2 t3 fun t57 =>
ald1 t57 w13 fun t58 =>
aar .neq t58 (.i 0) fun t59 =>
j60 [t59] w13) (j60 [.b false] w13))) fun j50 =>
acnd t45 (afld 1 t3 fun t47 =>
ald1 t47 w12 fun t48 =>
aar .neq t48 (.s ⟨#[]⟩) fun t49 =>
j50 [t49] w12) (j50 [.b false] w12))) fun j40 =>
acnd t34 (afld 1 t3 fun t36 =>
ald1 t36 w11 fun t37 =>
acallW pr 51 [t37] w11 (apn R) fun t38 w16 =>
anotb t38 fun t39 =>
j40 [t39] w16) (j40 [.b false] w11))) fun j31 =>
acnd t25 (afld 0 t7 fun t27 =>
ald1 t27 w4 fun t28 =>
aar .neq t28 a2 fun t30 =>
j31 [t30] w4) (j31 [.b false] w4)) fun j3 =>
afld 0 t3 fun t10 =>
ald1 t10 w1 fun t11 =>
aar .lss t11 (.i 1) fun t12 =>
acnd t12 (R (.ret (.b false)) w1) (afld 0 t3 fun t14 =>
ald1 t14 w1 fun t15 =>
aar .gtr t15 (.i 28) fun t16 =>
acnd t16 (R (.ret (.b false)) w1) (j3 [] w1))
theorem A110_eq : A110 = fun a0 a1 a2 L R => aex pr ⟨[(6, []), (12, []), (15, [79]), (22, [8]), (3000031, []), (3000040, []), (3000050, []), (3000060, []), (3000074, [])], [(3, [(0, 0), (1, 0), (2, 0), (3, 0), (4, 0), (5, 0), (6, 3), (7, 2)]), (11, [(0, 0), (1, 0), (2, 0), (3, 0), (4, 0), (5, 0), (6, 0), (7, 0), (8, 0)])]⟩ (bodyOf fn110) (aenv0 [a0, a1, a2]) L (apost pr fn110.results.toList R) := by kernel_rfl
theorem s110 {a0 a1 a2 : D} {L : List Bx} {R : AE → List Bx → Prop} (h : A110 a0 a1 a2 L R) : ASpec pr 110 [a0, a1, a2] L R :=
  aspec_of (A := ⟨[(6, []), (12, []), (15, [79]), (22, [8]), (3000031, []), (3000040, []), (3000050, []), (3000060, []), (3000074, [])], [(3, [(0, 0), (1, 0), (2, 0), (3, 0), (4, 0), (5, 0), (6, 3), (7, 2)]), (11, [(0, 0), (1, 0), (2, 0), (3, 0), (4, 0), (5, 0), (6, 0), (7, 0), (8, 0)])]⟩) (fn := fn110) 3 mixed Tryz.func110 (by kernel_rfl) (by decide) rfl (by kernel_rfl) (by rw [A110_eq] at h; exact h)
noncomputable abbrev fn157 : Func := Tryz.f157
def A157 (a0 a1 : D) (L : List Bx) (R : AE → List Bx → Prop) : Prop :=
abx [.i 0, .b false, .b false, .nil, .b false] L fun t4 w1 =>
abldS 3 1 2 [.i 0, .i 0] [(0, 1, a1), (1, 1, a1)] w1 fun t8 w2 =>
abld [.i 0, .b false, .b false, .nil, .b false] [(0, 1, a0), (3, 1, t8)] fun t9 =>
ast 5 t4 t9 w2 fun w3 =>
aldN 5 t4 w3 fun r0 =>
R (.ret r0) w3
theorem A157_eq : A157 = fun a0 a1 L R => aex pr ⟨[], []⟩ (bodyOf fn157) (aenv0 [a0, a1]) L (apost pr fn157.results.toList R) := by kernel_rfl
theorem s157 {a0 a1 : D} {L : List Bx} {R : AE → List Bx → Prop} (h : A157 a0 a1 L R) : ASpec pr 157 [a0, a1] L R :=
  aspec_of (A := ⟨[], []⟩) (fn := fn157) 2 mixed Tryz.func157 (by kernel_rfl) (by decide) rfl (by kernel_rfl) (by rw [A157_eq] at h; exact h)
noncomputable abbrev fn51 : Func := Tryz.f51
def A51 (a0 : D) (L : List Bx) (R : AE → List Bx → Prop) : Prop :=
aar .neq a0 (.s ⟨#[]⟩) fun t4 =>
acnd t4 (alenS a0 fun t7 =>
aar .leq t7 (.i 16) fun t8 =>
acnd t8 (aidxStr a0 (.i 0) fun t12 =>
acallW pr 92 [.s ⟨#[65, 66, 67, 68, 69, 70, 71, 72, 73, 74, 75, 76, 77, 78, 79, 80, 81, 82, 83, 84, 85, 86, 87, 88, 89, 90, 97, 98, 99, 100, 101, 102, 103, 104, 105, 106, 107, 108, 109, 110, 111, 112, 113, 114, 115, 116, 117, 118, 119, 120, 121, 122]⟩, t12] L (apn R) fun t13 w1 =>
aar .geq t13 (.i 0) fun t14 =>
acnd t14 (acallW pr 93 [a0, .s ⟨#[65, 66, 67, 68, 69, 70, 71, 72, 73, 74, 75, 76, 77, 78, 79, 80, 81, 82, 83, 84, 85, 86, 87, 88, 89, 90, 97, 98, 99, 100, 101, 102, 103, 104, 105, 106, 107, 108, 109, 110, 111, 112, 113, 114, 115, 116, 117, 118, 119, 120, 121, 122, 48, 49, 50, 51, 52, 53, 54, 55, 56, 57, 95]⟩] w1 (apn R) fun t18 w2 =>
aar .eql t18 (.s ⟨#[]⟩) fun t19 =>
R (.ret t19) w2) (R (.ret (.b false)) w1)) (R (.ret (.b false)) L)) (R (.ret (.b false)) L)
theorem A51_eq : A51 = fun a0 L R => aex pr ⟨[], []⟩ (bodyOf fn51) (aenv0 [a0]) L (apost pr fn51.results.toList R) := by kernel_rfl
theorem s51 {a0 : D} {L : List Bx} {R : AE → List Bx → Prop} (h : A51 a0 L R) : ASpec pr 51 [a0] L R :=
  aspec_of (A := ⟨[], []⟩) (fn := fn51) 1 mixed Tryz.func51 (by kernel_rfl) (by decide) rfl (by kernel_rfl) (by rw [A51_eq] at h; exact h)
noncomputable abbrev fn93 : Func := Tryz.f93
def A93 (a0 a1 : D) (L : List Bx) (R : AE → List Bx → Prop) : Prop :=
ajn (fun v3 w1 =>
ajn (fun v5 w2 =>
acallW pr 138 [a1] w2 (apn R) fun t31 w3 =>
aext 0 t31 fun t32 =>
aext 1 t31 fun t33 =>
abx (vals (reps 256 [.bool false])) w3 fun t5 w4 =>
ast 256 t5 t32 w4 fun w5 =>
acnd t33 (acallW pr 140 [a0, t5] w5 (apn R) fun t36 w6 =>
acallW pr 139 [t36, t5] w6 (apn R) fun t37 w7 =>
R (.ret t37) w7) (acallW pr 142 [a0, a1] w5 (apn R) fun t40 w8 =>
acallW pr 141 [t40, a1] w8 (apn R) fun t42 w9 =>
R (.ret t42) w9)) fun j5 =>
alenS a1 fun t15 =>
aar .eql t15 (.i 1) fun t16 =>
acnd t16 (aidxStr a1 (.i 0) fun t19 =>
aar .lss t19 (.val (.int .u8 128)) fun t20 =>
acnd t20 (aidxStr a1 (.i 0) fun t24 =>
acallS pr 137 [a0, t24] w1 (fun _ _ => False) fun t25 w10 =>
aidxStr a1 (.i 0) fun t27 =>
acallS pr 136 [t25, t27] w10 (fun _ _ => False) fun t28 w11 =>
R (.ret t28) w11) (j5 [] w1)) (j5 [] w1)) fun j3 =>
aar .eql a0 (.s ⟨#[]⟩) fun t8 =>
acnd t8 (R (.ret a0) L) (aar .eql a1 (.s ⟨#[]⟩) fun t11 =>
acnd t11 (R (.ret a0) L) (j3 [] L))
theorem A93_eq : A93 = fun a0 a1 L R => aex pr ⟨[(6, []), (10, [])], [(4, [(0, 0), (1, 0), (2, 0), (3, 0), (4, 0), (5, 0), (6, 0), (7, 2)])]⟩ (bodyOf fn93) (aenv0 [a0, a1]) L (apost pr fn93.results.toList R) := by kernel_rfl
theorem s93 {a0 a1 : D} {L : List Bx} {R : AE → List Bx → Prop} (h : A93 a0 a1 L R) : ASpec pr 93 [a0, a1] L R :=
  aspec_of (A := ⟨[(6, []), (10, [])], [(4, [(0, 0), (1, 0), (2, 0), (3, 0), (4, 0), (5, 0), (6, 0), (7, 2)])]⟩) (fn := fn93) 2 mixed Tryz.func93 (by kernel_rfl) (by decide) rfl (by kernel_rfl) (by rw [A93_eq] at h; exact h)
noncomputable abbrev fn138 : Func := Tryz.f138
def A138 (a0 : D) (L : List Bx) (R : AE → List Bx → Prop) : Prop :=
abx (vals (reps 256 [.bool false])) L fun t2 w1 =>
alp [.i 0] w1 fun v2 w2 k2 =>
alenS a0 fun t8 =>
aar .lss (aix v2 0) t8 fun t9 =>
acnd t9 (aidxStr a0 (aix v2 0) fun t14 =>
aar .geq t14 (.val (.int .u8 128)) fun t16 =>
acnd t16 (aldN 256 t2 w2 fun t17 =>
ast 256 t2 t17 w2 fun w3 =>
aldN 256 t2 w3 fun r0 =>
R (.ret (.tuple [r0, .b false])) w3) (aidxP 256 1 t2 t14 fun t19 =>
ast 1 t19 (.b true) w2 fun w4 =>
aar .add (aix v2 0) (.i 1) fun t11 =>
k2 [t11] w4)) (aldN 256 t2 w2 fun t20 =>
ast 256 t2 t20 w2 fun w5 =>
aldN 256 t2 w5 fun r0 =>
R (.ret (.tuple [r0, .b true])) w5)
theorem A138_eq : A138 = fun a0 L R => aex pr ⟨[(5, [4])], []⟩ (bodyOf fn138) (aenv0 [a0]) L (apost pr fn138.results.toList R) := by kernel_rfl
theorem s138 {a0 : D} {L : List Bx} {R : AE → List Bx → Prop} (h : A138 a0 L R) : ASpec pr 138 [a0] L R :=
  aspec_of (A := ⟨[(5, [4])], []⟩) (fn := fn138) 1 mixed Tryz.func138 (by kernel_rfl) (by decide) rfl (by kernel_rfl) (by rw [A138_eq] at h; exact h)
noncomputable abbrev fn139 : Func := Tryz.f139
def A139 (a0 a1 : D) (L : List Bx) (R : AE → List Bx → Prop) : Prop :=
alp [a0] L fun v1 w1 k1 =>
alenS (aix v1 0) fun t6 =>
aar .gtr t6 (.i 0) fun t7 =>
acnd t7 (aidxStr (aix v1 0) (.i 0) fun t10 =>
acallW pr 177 [a1, t10] w1 (apn R) fun t11 w2 =>
anotb t11 fun t12 =>
acnd t12 (R (.ret (aix v1 0)) w2) (aslcS (aix v1 0) (some (.i 1)) none fun t14 =>
k1 [t14] w2)) (R (.ret (aix v1 0)) w1)
theorem A139_eq : A139 = fun a0 a1 L R => aex pr ⟨[(3, [0])], []⟩ (bodyOf fn139) (aenv0 [a0, a1]) L (apost pr fn139.results.toList R) := by kernel_rfl
theorem s139 {a0 a1 : D} {L : List Bx} {R : AE → List Bx → Prop} (h : A139 a0 a1 L R) : ASpec pr 139 [a0, a1] L R :=
  aspec_of (A := ⟨[(3, [0])], []⟩) (fn := fn139) 2 mixed Tryz.func139 (by kernel_rfl) (by decide) rfl (by kernel_rfl) (by rw [A139_eq] at h; exact h)
noncomputable abbrev fn140 : Func := Tryz.f140
def A140 (a0 a1 : D) (L : List Bx) (R : AE → List Bx → Prop) : Prop :=
alp [a0] L fun v1 w1 k1 =>
alenS (aix v1 0) fun t6 =>
aar .gtr t6 (.i 0) fun t7 =>
acnd t7 (alenS (aix v1 0) fun t11 =>
aar .sub t11 (.i 1) fun t12 =>
aidxStr (aix v1 0) t12 fun t13 =>
acallW pr 177 [a1, t13] w1 (apn R) fun t14 w2 =>
anotb t14 fun t15 =>
acnd t15 (R (.ret (aix v1 0)) w2) (alenS (aix v1 0) fun t18 =>
aar .sub t18 (.i 1) fun t19 =>
aslcS (aix v1 0) none (some t19) fun t20 =>
k1 [t20] w2)) (R (.ret (aix v1 0)) w1)
theorem A140_eq : A140 = fun a0 a1 L R => aex pr ⟨[(3, [0])], []⟩ (bodyOf fn140) (aenv0 [a0, a1]) L (apost pr fn140.results.toList R) := by kernel_rfl
theorem s140 {a0 a1 : D} {L : List Bx} {R : AE → List Bx → Prop} (h : A140 a0 a1 L R) : ASpec pr 140 [a0, a1] L R :=
  aspec_of (A := ⟨[(3, [0])], []⟩) (fn := fn140) 2 mixed Tryz.func140 (by kernel_rfl) (by decide) rfl (by kernel_rfl) (by rw [A140_eq] at h; exact h)
noncomputable abbrev fn177 : Func := Tryz.f177
def A177 (a0 a1 : D) (L : List Bx) (R : AE → List Bx → Prop) : Prop :=
anilc a0 fun t7 =>
aidxP 256 1 t7 a1 fun t8 =>
ald1 t8 L fun t9 =>
R (.ret t9) L
theorem A177_eq : A177 = fun a0 a1 L R => aex pr ⟨[], []⟩ (bodyOf fn177) (aenv0 [a0, a1]) L (apost pr fn177.results.toList R) := by kernel_rfl
theorem s177 {a0 a1 : D} {L : List Bx} {R : AE → List Bx → Prop} (h : A177 a0 a1 L R) : ASpec pr 177 [a0, a1] L R :=
  aspec_of (A := ⟨[], []⟩) (fn := fn177) 2 mixed Tryz.func177 (by kernel_rfl) (by decide) rfl (by kernel_rfl) (by rw [A177_eq] at h; exact h)
noncomputable abbrev fn106 : Func := Tryz.f106
def A106 (a0 a1 : D) (L : List Bx) (R : AE → List Bx → Prop) : Prop :=
abxv a0 L fun t2 w1 =>
abxv a1 w1 fun t3 w2 =>
ajn (fun v3 w3 =>
alp [.i 0] w3 fun v4 w4 k4 =>
afld 3 t2 fun t35 =>
ald1 t35 w4 fun t36 =>
alenL t36 fun t37 =>
aar .lss (aix v4 0) t37 fun t38 =>
acnd t38 (afld 3 t2 fun t41 =>
ald1 t41 w4 fun t42 =>
aidxS 4 t42 (aix v4 0) fun t44 =>
aldN 4 t44 w4 fun t45 =>
afld 3 t3 fun t46 =>
ald1 t46 w4 fun t47 =>
aidxS 4 t47 (aix v4 0) fun t49 =>
aldN 4 t49 w4 fun t50 =>
acallS pr 106 [t45, t50] w4 (fun _ _ => False) fun t51 w5 =>
anotb t51 fun t52 =>
acnd t52 (R (.ret (.b false)) w5) (aar .add (aix v4 0) (.i 1) fun t40 =>
k4 [t40] w5)) (R (.ret (.b true)) w4)) fun j3 =>
afld 0 t2 fun t6 =>
ald1 t6 w2 fun t7 =>
afld 0 t3 fun t8 =>
ald1 t8 w2 fun t9 =>
aar .neq t7 t9 fun t10 =>
acnd t10 (R (.ret (.b false)) w2) (afld 1 t2 fun t12 =>
ald1 t12 w2 fun t13 =>
afld 1 t3 fun t14 =>
ald1 t14 w2 fun t15 =>
aar .neq t13 t15 fun t16 =>
acnd t16 (R (.ret (.b false)) w2) (afld 2 t2 fun t19 =>
ald1 t19 w2 fun t20 =>
afld 2 t3 fun t21 =>
ald1 t21 w2 fun t22 =>
aar .neq t20 t22 fun t23 =>
acnd t23 (R (.ret (.b false)) w2) (afld 3 t2 fun t26 =>
ald1 t26 w2 fun t27 =>
alenL t27 fun t28 =>
afld 3 t3 fun t29 =>
ald1 t29 w2 fun t30 =>
alenL t30 fun t31 =>
aar .neq t28 t31 fun t32 =>
acnd t32 (R (.ret (.b false)) w2) (j3 [] w2))))
theorem A106_eq : A106 = fun a0 a1 L R => aex pr ⟨[(6, []), (9, [5])], [(6, [(0, 0), (1, 0), (2, 0), (3, 0), (4, 0), (5, 0), (6, 0), (7, 0), (8, 0), (9, 0), (10, 0), (11, 0)])]⟩ (bodyOf fn106) (aenv0 [a0, a1]) L (apost pr fn106.results.toList R) := by kernel_rfl
theorem s106 {a0 a1 : D} {L : List Bx} {R : AE → List Bx → Prop} (h : A106 a0 a1 L R) : ASpec pr 106 [a0, a1] L R :=
  aspec_of (A := ⟨[(6, []), (9, [5])], [(6, [(0, 0), (1, 0), (2, 0), (3, 0), (4, 0), (5, 0), (6, 0), (7, 0), (8, 0), (9, 0), (10, 0), (11, 0)])]⟩) (fn := fn106) 2 mixed Tryz.func106 (by kernel_rfl) (by decide) rfl (by kernel_rfl) (by rw [A106_eq] at h; exact h)
noncomputable abbrev fn65 : Func := Tryz.f65
def A65 (a0 a1 : D) (L : List Bx) (R : AE → List Bx → Prop) : Prop :=
abxv a0 L fun t2 w1 =>
abxv a1 w1 fun t3 w2 =>
aldN 4 t2 w2 fun t5 =>
acallW pr 105 [t5] w2 (apn R) fun t6 w3 =>
aar .leq t6 (.i 100) fun t7 =>
acnd t7 (aldN 4 t3 w3 fun t9 =>
acallW pr 105 [t9] w3 (apn R) fun t10 w4 =>
aar .leq t10 (.i 100) fun t11 =>
acnd t11 (aldN 4 t2 w4 fun t14 =>
aldN 4 t3 w4 fun t15 =>
acallW pr 106 [t14, t15] w4 (apn R) fun t16 w5 =>
R (.ret t16) w5) (R (.ret (.b false)) w4)) (R (.ret (.b false)) w3)
theorem A65_eq : A65 = fun a0 a1 L R => aex pr ⟨[], []⟩ (bodyOf fn65) (aenv0 [a0, a1]) L (apost pr fn65.results.toList R) := by kernel_rfl
theorem s65 {a0 a1 : D} {L : List Bx} {R : AE → List Bx → Prop} (h : A65 a0 a1 L R) : ASpec pr 65 [a0, a1] L R :=
  aspec_of (A := ⟨[], []⟩) (fn := fn65) 2 mixed Tryz.func65 (by kernel_rfl) (by decide) rfl (by kernel_rfl) (by rw [A65_eq] at h; exact h)
noncomputable abbrev fn154 : Func := Tryz.f154
def A154 (a0 a1 : D) (L : List Bx) (R : AE → List Bx → Prop) : Prop :=
abxv a0 L fun t2 w1 =>
aar .eql a1 (.i 1) fun t8 =>
acnd t8 (R (.ret (.i 1)) w1) (alp [.i 0, .i 0] w1 fun v5 w2 k5 =>
afld 3 t2 fun t10 =>
ald1 t10 w2 fun t11 =>
alenL t11 fun t12 =>
aar .lss (aix v5 1) t12 fun t13 =>
acnd t13 (afld 3 t2 fun t17 =>
ald1 t17 w2 fun t18 =>
aidxS 4 t18 (aix v5 1) fun t20 =>
aldN 4 t20 w2 fun t21 =>
aar .sub a1 (.i 1) fun t23 =>
acallW pr 154 [t21, t23] w2 (apn R) fun t24 w3 =>
amax2 (aix v5 0) t24 fun t25 =>
aar .add (aix v5 1) (.i 1) fun t15 =>
k5 [t25, t15] w3) (aar .add (aix v5 0) (.i 1) fun t27 =>
R (.ret t27) w2))
theorem A154_eq : A154 = fun a0 a1 L R => aex pr ⟨[(11, [5, 6])], []⟩ (bodyOf fn154) (aenv0 [a0, a1]) L (apost pr fn154.results.toList R) := by kernel_rfl
theorem s154 {a0 a1 : D} {L : List Bx} {R : AE → List Bx → Prop} (h : A154 a0 a1 L R) : ASpec pr 154 [a0, a1] L R :=
  aspec_of (A := ⟨[(11, [5, 6])], []⟩) (fn := fn154) 2 mixed Tryz.func154 (by kernel_rfl) (by decide) rfl (by kernel_rfl) (by rw [A154_eq] at h; exact h)
noncomputable abbrev fn105 : Func := Tryz.f105
def A105 (a0 : D) (L : List Bx) (R : AE → List Bx → Prop) : Prop :=
abxv a0 L fun t1 w1 =>
aldN 4 t1 w1 fun t3 =>
acallW pr 154 [t3, .i 101] w1 (apn R) fun t4 w2 =>
R (.ret t4) w2
theorem A105_eq : A105 = fun a0 L R => aex pr ⟨[], []⟩ (bodyOf fn105) (aenv0 [a0]) L (apost pr fn105.results.toList R) := by kernel_rfl
theorem s105 {a0 : D} {L : List Bx} {R : AE → List Bx → Prop} (h : A105 a0 L R) : ASpec pr 105 [a0] L R :=
  aspec_of (A := ⟨[], []⟩) (fn := fn105) 1 mixed Tryz.func105 (by kernel_rfl) (by decide) rfl (by kernel_rfl) (by rw [A105_eq] at h; exact h)
end Go.Proofs.YtdalobojhfafbaaGreatDoor
