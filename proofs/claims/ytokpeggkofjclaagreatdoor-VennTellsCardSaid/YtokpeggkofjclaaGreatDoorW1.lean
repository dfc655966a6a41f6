/- What must hold ahead of a call, function by function: printed by a program. -/
import Derived.Test.YtokpeggkofjclaaGreatDoorProg
import Derived.Test.YtokpeggkofjclaaGreatDoorA9
import Derived.KernelRfl
set_option maxRecDepth 100000
set_option linter.unusedVariables false
namespace Go.Proofs.YtokpeggkofjclaaGreatDoor
open Go Go.V
noncomputable abbrev pr : Program := Tryz.prog
theorem mixed : pr.follows .mixedOrders = true := by kernel_rfl
noncomputable abbrev fn67 : Func := Tryz.f67
/- (*ashlar/term.measure).of -/
def A67 (a0 a1 a2 : D) (L : List Bx) (R : AE → List Bx → Prop) : Prop :=
abxv a1 L fun t4 w1 =>
anilc a0 fun t9 =>
afld 0 t9 fun t10 =>
ald1 t10 w1 fun t11 =>
aar .add t11 (.i 1) fun t12 =>
anilc a0 fun t13 =>
afld 0 t13 fun t14 =>
ast 1 t14 t12 w1 fun w2 =>
anilc a0 fun t17 =>
afld 1 t17 fun t18 =>
ald1 t18 w2 fun t19 =>
amax2 t19 a2 fun t21 =>
anilc a0 fun t22 =>
afld 1 t22 fun t23 =>
ast 1 t23 t21 w2 fun w3 =>
afld 3 t4 fun t24 =>
ald1 t24 w3 fun t25 =>
alenL t25 fun t26 =>
alp [.i 0] w3 fun v4 w4 k4 =>
aar .lss (aix v4 0) t26 fun t28 =>
acnd t28 (aidxS 4 t25 (aix v4 0) fun t29 =>
aldN 4 t29 w4 fun t30 =>
abx [.i 0, .s ⟨#[]⟩, .i 0, .nil] w4 fun t7 w5 =>
ast 4 t7 t30 w5 fun w6 =>
anilc a0 fun t32 =>
afld 0 t32 fun t33 =>
ald1 t33 w6 fun t34 =>
aar .gtr t34 (.i 2000) fun t35 =>
acnd t35 (R (.ret (.tuple [])) w6) (aar .gtr a2 (.i 100) fun t38 =>
acnd t38 (R (.ret (.tuple [])) w6) (aldN 4 t7 w6 fun t41 =>
aar .add a2 (.i 1) fun t43 =>
acallW pr 67 [a0, t41, t43] w6 (apn R) fun t44 w7 =>
aar .add (aix v4 0) (.i 1) fun t45 =>
k4 [t45] w7))) (R (.ret (.tuple [])) w4)
theorem A67_eq : A67 = fun a0 a1 a2 L R => aex pr ⟨[(9, [27])], []⟩ (bodyOf fn67) (aenv0 [a0, a1, a2]) L (apost pr fn67.results.toList R) := by kernel_rfl
theorem s67 {a0 a1 a2 : D} {L : List Bx} {R : AE → List Bx → Prop} (h : A67 a0 a1 a2 L R) : ASpec pr 67 [a0, a1, a2] L R :=
  aspec_of (A := ⟨[(9, [27])], []⟩) (fn := fn67) 3 mixed Tryz.func67 (by kernel_rfl) (by decide) rfl (by kernel_rfl) (by rw [A67_eq] at h; exact h)
noncomputable abbrev fn31 : Func := Tryz.f31
/- ashlar/term.Sort -/
def A31 (a0 : D) (L : List Bx) (R : AE → List Bx → Prop) : Prop :=
abxv a0 L fun t1 w1 =>
abld [.i 0, .i 0] [] fun t6 =>
abxv t6 w1 fun t7 w2 =>
ajn (fun v5 w3 =>
acallW pr 68 [] w3 (apn R) fun t23 w4 =>
abx (vals (reps 29 [.int .i64 0, .bool false, .bool false, .slice none 0 0, .bool false])) w4 fun t5 w5 =>
ast 145 t5 t23 w5 fun w6 =>
aldN 4 t1 w6 fun t24 =>
acallW pr 69 [t24, t5, .i 0] w6 (apn R) fun t25 w7 =>
anotb t25 fun t26 =>
acnd t26 (R (.ret (.tuple [.i 0, .i 3])) w7) (afld 0 t1 fun t27 =>
ald1 t27 w7 fun t28 =>
aidxP 29 5 t5 t28 fun t29 =>
afld 0 t29 fun t30 =>
ald1 t30 w7 fun t31 =>
R (.ret (.tuple [t31, .i 0])) w7)) fun j5 =>
aldN 4 t1 w2 fun t9 =>
acallW pr 67 [t7, t9, .i 1] w2 (apn R) fun t10 w8 =>
anilc t7 fun t12 =>
afld 0 t12 fun t13 =>
ald1 t13 w8 fun t14 =>
aar .gtr t14 (.i 2000) fun t15 =>
acnd t15 (R (.ret (.tuple [.i 0, .i 7])) w8) (anilc t7 fun t18 =>
afld 1 t18 fun t19 =>
ald1 t19 w8 fun t20 =>
aar .gtr t20 (.i 100) fun t21 =>
acnd t21 (R (.ret (.tuple [.i 0, .i 7])) w8) (j5 [] w8))
theorem A31_eq : A31 = fun a0 L R => aex pr ⟨[(10, [])], []⟩ (bodyOf fn31) (aenv0 [a0]) L (apost pr fn31.results.toList R) := by kernel_rfl
theorem s31 {a0 : D} {L : List Bx} {R : AE → List Bx → Prop} (h : A31 a0 L R) : ASpec pr 31 [a0] L R :=
  aspec_of (A := ⟨[(10, [])], []⟩) (fn := fn31) 1 mixed Tryz.func31 (by kernel_rfl) (by decide) rfl (by kernel_rfl) (by rw [A31_eq] at h; exact h)
noncomputable abbrev fn68 : Func := Tryz.f68
/- ashlar/term.shapes -/
def A68 (L : List Bx) (R : AE → List Bx → Prop) : Prop :=
abx (vals (reps 29 [.int .i64 0, .bool false, .bool false, .slice none 0 0, .bool false])) L fun t0 w1 =>
abld [.i 0, .b false, .b false, .nil, .b false] [(0, 1, .i 1), (2, 1, .b true)] fun t2 =>
abld [.i 0, .b false, .b false, .nil, .b false] [(0, 1, .i 1), (1, 1, .b true)] fun t3 =>
abldS 3 1 1 [.i 0] [(0, 1, .i 2)] w1 fun t4 w2 =>
abld [.i 0, .b false, .b false, .nil, .b false] [(0, 1, .i 1), (3, 1, t4)] fun t5 =>
acallW pr 113 [.i 1, .i 1] w2 (apn R) fun t7 w3 =>
acallW pr 113 [.i 1, .i 1] w3 (apn R) fun t9 w4 =>
abldS 3 1 1 [.i 0] [(0, 1, .i 1)] w4 fun t10 w5 =>
abld [.i 0, .b false, .b false, .nil, .b false] [(0, 1, .i 1), (2, 1, .b true), (3, 1, t10)] fun t11 =>
abld [.i 0, .b false, .b false, .nil, .b false] [(0, 1, .i 2), (1, 1, .b true)] fun t12 =>
abld [.i 0, .b false, .b false, .nil, .b false] [(0, 1, .i 2)] fun t13 =>
abld [.i 0, .b false, .b false, .nil, .b false] [(0, 1, .i 2)] fun t14 =>
abldS 3 1 1 [.i 0] [(0, 1, .i 3)] w5 fun t15 w6 =>
abld [.i 0, .b false, .b false, .nil, .b false] [(0, 1, .i 2), (3, 1, t15)] fun t16 =>
acallW pr 113 [.i 2, .i 2] w6 (apn R) fun t18 w7 =>
acallW pr 113 [.i 2, .i 2] w7 (apn R) fun t20 w8 =>
acallW pr 113 [.i 2, .i 2] w8 (apn R) fun t22 w9 =>
abld [.i 0, .b false, .b false, .nil, .b false] [(0, 1, .i 3), (1, 1, .b true)] fun t23 =>
abld [.i 0, .b false, .b false, .nil, .b false] [(0, 1, .i 4), (1, 1, .b true)] fun t24 =>
abld [.i 0, .b false, .b false, .nil, .b false] [(0, 1, .i 4)] fun t25 =>
abld [.i 0, .b false, .b false, .nil, .b false] [(0, 1, .i 4)] fun t26 =>
abldS 3 1 1 [.i 0] [(0, 1, .i 4)] w9 fun t27 w10 =>
abld [.i 0, .b false, .b false, .nil, .b false] [(0, 1, .i 4), (3, 1, t27)] fun t28 =>
abldS 3 1 1 [.i 0] [(0, 1, .i 4)] w10 fun t29 w11 =>
abld [.i 0, .b false, .b false, .nil, .b false] [(0, 1, .i 4), (3, 1, t29), (4, 1, .b true)] fun t30 =>
abldS 3 1 1 [.i 0] [(0, 1, .i 4)] w11 fun t31 w12 =>
abld [.i 0, .b false, .b false, .nil, .b false] [(0, 1, .i 4), (3, 1, t31), (4, 1, .b true)] fun t32 =>
acallW pr 113 [.i 4, .i 4] w12 (apn R) fun t34 w13 =>
acallW pr 113 [.i 4, .i 1] w13 (apn R) fun t36 w14 =>
acallW pr 113 [.i 4, .i 1] w14 (apn R) fun t38 w15 =>
acallW pr 113 [.i 4, .i 1] w15 (apn R) fun t40 w16 =>
abldS 3 1 2 [.i 0, .i 0] [(0, 1, .i 3), (1, 1, .i 2)] w16 fun t41 w17 =>
abld [.i 0, .b false, .b false, .nil, .b false] [(0, 1, .i 4), (3, 1, t41)] fun t42 =>
acallW pr 113 [.i 4, .i 2] w17 (apn R) fun t44 w18 =>
acallW pr 113 [.i 4, .i 2] w18 (apn R) fun t46 w19 =>
acallW pr 113 [.i 4, .i 3] w19 (apn R) fun t48 w20 =>
abld (vals (reps 29 [.int .i64 0, .bool false, .bool false, .slice none 0 0, .bool false])) [(5, 5, t2), (10, 5, t3), (15, 5, t5), (20, 5, t7), (25, 5, t9), (30, 5, t11), (35, 5, t12), (40, 5, t13), (45, 5, t14), (50, 5, t16), (55, 5, t18), (60, 5, t20), (65, 5, t22), (70, 5, t23), (75, 5, t24), (80, 5, t25), (85, 5, t26), (90, 5, t28), (95, 5, t30), (100, 5, t32), (105, 5, t34), (110, 5, t36), (115, 5, t38), (120, 5, t40), (125, 5, t42), (130, 5, t44), (135, 5, t46), (140, 5, t48)] fun t49 =>
ast 145 t0 t49 w20 fun w21 =>
aldN 145 t0 w21 fun r0 =>
R (.ret r0) w21
theorem A68_eq : A68 = fun  L R => aex pr ⟨[], []⟩ (bodyOf fn68) (aenv0 []) L (apost pr fn68.results.toList R) := by kernel_rfl
theorem s68 {L : List Bx} {R : AE → List Bx → Prop} (h : A68  L R) : ASpec pr 68 [] L R :=
  aspec_of (A := ⟨[], []⟩) (fn := fn68) 0 mixed Tryz.func68 (by kernel_rfl) (by decide) rfl (by kernel_rfl) (by rw [A68_eq] at h; exact h)
noncomputable abbrev fn69 : Func := Tryz.f69
/- ashlar/term.right -/
def A69 (a0 a1 a2 : D) (L : List Bx) (R : AE → List Bx → Prop) : Prop :=
abxv a0 L fun t3 w1 =>
ajn (fun v3 w2 =>
afld 0 t3 fun t19 =>
ald1 t19 w2 fun t20 =>
anilc a1 fun t21 =>
aidxP 29 5 t21 t20 fun t22 =>
aldN 5 t22 w2 fun t23 =>
abx [.i 0, .b false, .b false, .nil, .b false] w2 fun t7 w3 =>
ast 5 t7 t23 w3 fun w4 =>
ajn (fun v6 w5 =>
afld 3 t3 fun t76 =>
ald1 t76 w5 fun t77 =>
alenL t77 fun t78 =>
alp [.i 0] w5 fun v7 w6 k7 =>
aar .lss (aix v7 0) t78 fun t80 =>
acnd t80 (aidxS 4 t77 (aix v7 0) fun t82 =>
aldN 4 t82 w6 fun t83 =>
abx [.i 0, .s ⟨#[]⟩, .i 0, .nil] w6 fun t9 w7 =>
ast 4 t9 t83 w7 fun w8 =>
ajn (fun v11 w9 =>
aldN 4 t9 w9 fun t86 =>
afld 3 t7 fun t88 =>
ald1 t88 w9 fun t89 =>
aidxS 1 t89 (aix v11 0) fun t91 =>
ald1 t91 w9 fun t92 =>
acallS pr 69 [t86, a1, t92] w9 (fun _ _ => False) fun t93 w10 =>
anotb t93 fun t94 =>
acnd t94 (R (.ret (.b false)) w10) (aar .add (aix v7 0) (.i 1) fun t95 =>
k7 [t95] w10)) fun j11 =>
afld 4 t7 fun t84 =>
ald1 t84 w8 fun t85 =>
acnd t85 (j11 [.i 0] w8) (j11 [aix v7 0] w8)) (R (.ret (.b true)) w6)) fun j6 =>
aar .neq a2 (.i 0) fun t25 =>
ajn (fun y31 w11 =>
acnd (aix y31 0) (R (.ret (.b false)) w11) (afld 1 t7 fun t33 =>
ald1 t33 w11 fun t34 =>
ajn (fun y40 w12 =>
acnd (aix y40 0) (R (.ret (.b false)) w12) (afld 1 t7 fun t43 =>
ald1 t43 w12 fun t44 =>
anotb t44 fun t45 =>
ajn (fun y50 w13 =>
acnd (aix y50 0) (R (.ret (.b false)) w13) (afld 2 t7 fun t53 =>
ald1 t53 w13 fun t54 =>
anotb t54 fun t55 =>
ajn (fun y60 w14 =>
acnd (aix y60 0) (R (.ret (.b false)) w14) (afld 4 t7 fun t63 =>
ald1 t63 w14 fun t64 =>
anotb t64 fun t65 =>
ajn (fun y74 w15 =>
acnd (aix y74 0) (R (.ret (.b false)) w15) (j6 [] w15)) fun j74 =>
acnd t65 (afld 3 t3 fun t67 =>
ald1 t67 w14 fun t68 =>
alenL t68 fun t69 =>
afld 3 t7 fun t70 =>
ald1 t70 w14 fun t71 =>
alenL t71 fun t72 =>
aar .neq t69 t72 fun t73 =>
j74 [t73] w14) (j74 [.b false] w14))) fun j60 =>
acnd t55 (afld 2 t3 fun t57 =>
ald1 t57 w13 fun t58 =>
aar .neq t58 (.i 0) fun t59 =>
j60 [t59] w13) (j60 [.b false] w13))) fun j50 =>
acnd t45 (afld 1 t3 fun t47 =>
ald1 t47 w12 fun t48 =>
aar .neq t48 (.s ⟨#[]⟩) fun t49 =>
j50 [t49] w12) (j50 [.b false] w12))) fun j40 =>
acnd t34 (afld 1 t3 fun t36 =>
ald1 t36 w11 fun t37 =>
acallW pr 94 [t37] w11 (apn R) fun t38 w16 =>
anotb t38 fun t39 =>
j40 [t39] w16) (j40 [.b false] w11))) fun j31 =>
acnd t25 (afld 0 t7 fun t27 =>
ald1 t27 w4 fun t28 =>
aar .neq t28 a2 fun t30 =>
j31 [t30] w4) (j31 [.b false] w4)) fun j3 =>
afld 0 t3 fun t10 =>
ald1 t10 w1 fun t11 =>
aar .lss t11 (.i 1) fun t12 =>
acnd t12 (R (.ret (.b false)) w1) (afld 0 t3 fun t14 =>
ald1 t14 w1 fun t15 =>
aar .gtr t15 (.i 28) fun t16 =>
acnd t16 (R (.ret (.b false)) w1) (j3 [] w1))
theorem A69_eq : A69 = fun a0 a1 a2 L R => aex pr ⟨[(6, []), (12, []), (15, [79]), (22, [8]), (3000031, []), (3000040, []), (3000050, []), (3000060, []), (3000074, [])], [(3, [(0, 0), (1, 0), (2, 0), (3, 0), (4, 0), (5, 0), (6, 3), (7, 2)]), (11, [(0, 0), (1, 0), (2, 0), (3, 0), (4, 0), (5, 0), (6, 0), (7, 0), (8, 0)])]⟩ (bodyOf fn69) (aenv0 [a0, a1, a2]) L (apost pr fn69.results.toList R) := by kernel_rfl
theorem s69 {a0 a1 a2 : D} {L : List Bx} {R : AE → List Bx → Prop} (h : A69 a0 a1 a2 L R) : ASpec pr 69 [a0, a1, a2] L R :=
  aspec_of (A := ⟨[(6, []), (12, []), (15, [79]), (22, [8]), (3000031, []), (3000040, []), (3000050, []), (3000060, []), (3000074, [])], [(3, [(0, 0), (1, 0), (2, 0), (3, 0), (4, 0), (5, 0), (6, 3), (7, 2)]), (11, [(0, 0), (1, 0), (2, 0), (3, 0), (4, 0), (5, 0), (6, 0), (7, 0), (8, 0)])]⟩) (fn := fn69) 3 mixed Tryz.func69 (by kernel_rfl) (by decide) rfl (by kernel_rfl) (by rw [A69_eq] at h; exact h)
noncomputable abbrev fn113 : Func := Tryz.f113
/- ashlar/term.shapes$1 -/
def A113 (a0 a1 : D) (L : List Bx) (R : AE → List Bx → Prop) : Prop :=
abx [.i 0, .b false, .b false, .nil, .b false] L fun t4 w1 =>
abldS 3 1 2 [.i 0, .i 0] [(0, 1, a1), (1, 1, a1)] w1 fun t8 w2 =>
abld [.i 0, .b false, .b false, .nil, .b false] [(0, 1, a0), (3, 1, t8)] fun t9 =>
ast 5 t4 t9 w2 fun w3 =>
aldN 5 t4 w3 fun r0 =>
R (.ret r0) w3
theorem A113_eq : A113 = fun a0 a1 L R => aex pr ⟨[], []⟩ (bodyOf fn113) (aenv0 [a0, a1]) L (apost pr fn113.results.toList R) := by kernel_rfl
theorem s113 {a0 a1 : D} {L : List Bx} {R : AE → List Bx → Prop} (h : A113 a0 a1 L R) : ASpec pr 113 [a0, a1] L R :=
  aspec_of (A := ⟨[], []⟩) (fn := fn113) 2 mixed Tryz.func113 (by kernel_rfl) (by decide) rfl (by kernel_rfl) (by rw [A113_eq] at h; exact h)
noncomputable abbrev fn94 : Func := Tryz.f94
/- ashlar/term.Name -/
def A94 (a0 : D) (L : List Bx) (R : AE → List Bx → Prop) : Prop :=
aar .neq a0 (.s ⟨#[]⟩) fun t4 =>
acnd t4 (alenS a0 fun t7 =>
aar .leq t7 (.i 16) fun t8 =>
acnd t8 (aidxStr a0 (.i 0) fun t12 =>
acallW pr 136 [.s ⟨#[65, 66, 67, 68, 69, 70, 71, 72, 73, 74, 75, 76, 77, 78, 79, 80, 81, 82, 83, 84, 85, 86, 87, 88, 89, 90, 97, 98, 99, 100, 101, 102, 103, 104, 105, 106, 107, 108, 109, 110, 111, 112, 113, 114, 115, 116, 117, 118, 119, 120, 121, 122]⟩, t12] L (apn R) fun t13 w1 =>
aar .geq t13 (.i 0) fun t14 =>
acnd t14 (acallW pr 137 [a0, .s ⟨#[65, 66, 67, 68, 69, 70, 71, 72, 73, 74, 75, 76, 77, 78, 79, 80, 81, 82, 83, 84, 85, 86, 87, 88, 89, 90, 97, 98, 99, 100, 101, 102, 103, 104, 105, 106, 107, 108, 109, 110, 111, 112, 113, 114, 115, 116, 117, 118, 119, 120, 121, 122, 48, 49, 50, 51, 52, 53, 54, 55, 56, 57, 95]⟩] w1 (apn R) fun t18 w2 =>
aar .eql t18 (.s ⟨#[]⟩) fun t19 =>
R (.ret t19) w2) (R (.ret (.b false)) w1)) (R (.ret (.b false)) L)) (R (.ret (.b false)) L)
theorem A94_eq : A94 = fun a0 L R => aex pr ⟨[], []⟩ (bodyOf fn94) (aenv0 [a0]) L (apost pr fn94.results.toList R) := by kernel_rfl
theorem s94 {a0 : D} {L : List Bx} {R : AE → List Bx → Prop} (h : A94 a0 L R) : ASpec pr 94 [a0] L R :=
  aspec_of (A := ⟨[], []⟩) (fn := fn94) 1 mixed Tryz.func94 (by kernel_rfl) (by decide) rfl (by kernel_rfl) (by rw [A94_eq] at h; exact h)
noncomputable abbrev fn137 : Func := Tryz.f137
/- strings.Trim -/
def A137 (a0 a1 : D) (L : List Bx) (R : AE → List Bx → Prop) : Prop :=
ajn (fun v3 w1 =>
ajn (fun v5 w2 =>
acallW pr 164 [a1] w2 (apn R) fun t31 w3 =>
aext 0 t31 fun t32 =>
aext 1 t31 fun t33 =>
abx (vals (reps 256 [.bool false])) w3 fun t5 w4 =>
ast 256 t5 t32 w4 fun w5 =>
acnd t33 (acallW pr 166 [a0, t5] w5 (apn R) fun t36 w6 =>
acallW pr 165 [t36, t5] w6 (apn R) fun t37 w7 =>
R (.ret t37) w7) (acallW pr 168 [a0, a1] w5 (apn R) fun t40 w8 =>
acallW pr 167 [t40, a1] w8 (apn R) fun t42 w9 =>
R (.ret t42) w9)) fun j5 =>
alenS a1 fun t15 =>
aar .eql t15 (.i 1) fun t16 =>
acnd t16 (aidxStr a1 (.i 0) fun t19 =>
aar .lss t19 (.val (.int .u8 128)) fun t20 =>
acnd t20 (aidxStr a1 (.i 0) fun t24 =>
acallS pr 163 [a0, t24] w1 (fun _ _ => False) fun t25 w10 =>
aidxStr a1 (.i 0) fun t27 =>
acallS pr 162 [t25, t27] w10 (fun _ _ => False) fun t28 w11 =>
R (.ret t28) w11) (j5 [] w1)) (j5 [] w1)) fun j3 =>
aar .eql a0 (.s ⟨#[]⟩) fun t8 =>
acnd t8 (R (.ret a0) L) (aar .eql a1 (.s ⟨#[]⟩) fun t11 =>
acnd t11 (R (.ret a0) L) (j3 [] L))
theorem A137_eq : A137 = fun a0 a1 L R => aex pr ⟨[(6, []), (10, [])], [(4, [(0, 0), (1, 0), (2, 0), (3, 0), (4, 0), (5, 0), (6, 0), (7, 2)])]⟩ (bodyOf fn137) (aenv0 [a0, a1]) L (apost pr fn137.results.toList R) := by kernel_rfl
theorem s137 {a0 a1 : D} {L : List Bx} {R : AE → List Bx → Prop} (h : A137 a0 a1 L R) : ASpec pr 137 [a0, a1] L R :=
  aspec_of (A := ⟨[(6, []), (10, [])], [(4, [(0, 0), (1, 0), (2, 0), (3, 0), (4, 0), (5, 0), (6, 0), (7, 2)])]⟩) (fn := fn137) 2 mixed Tryz.func137 (by kernel_rfl) (by decide) rfl (by kernel_rfl) (by rw [A137_eq] at h; exact h)
noncomputable abbrev fn164 : Func := Tryz.f164
/- strings.makeASCIISet -/
def A164 (a0 : D) (L : List Bx) (R : AE → List Bx → Prop) : Prop :=
abx (vals (reps 256 [.bool false])) L fun t2 w1 =>
alp [.i 0] w1 fun v2 w2 k2 =>
alenS a0 fun t8 =>
aar .lss (aix v2 0) t8 fun t9 =>
acnd t9 (aidxStr a0 (aix v2 0) fun t14 =>
aar .geq t14 (.val (.int .u8 128)) fun t16 =>
acnd t16 (aldN 256 t2 w2 fun t17 =>
ast 256 t2 t17 w2 fun w3 =>
aldN 256 t2 w3 fun r0 =>
R (.ret (.tuple [r0, .b false])) w3) (aidxP 256 1 t2 t14 fun t19 =>
ast 1 t19 (.b true) w2 fun w4 =>
aar .add (aix v2 0) (.i 1) fun t11 =>
k2 [t11] w4)) (aldN 256 t2 w2 fun t20 =>
ast 256 t2 t20 w2 fun w5 =>
aldN 256 t2 w5 fun r0 =>
R (.ret (.tuple [r0, .b true])) w5)
theorem A164_eq : A164 = fun a0 L R => aex pr ⟨[(5, [4])], []⟩ (bodyOf fn164) (aenv0 [a0]) L (apost pr fn164.results.toList R) := by kernel_rfl
theorem s164 {a0 : D} {L : List Bx} {R : AE → List Bx → Prop} (h : A164 a0 L R) : ASpec pr 164 [a0] L R :=
  aspec_of (A := ⟨[(5, [4])], []⟩) (fn := fn164) 1 mixed Tryz.func164 (by kernel_rfl) (by decide) rfl (by kernel_rfl) (by rw [A164_eq] at h; exact h)
noncomputable abbrev fn165 : Func := Tryz.f165
/- strings.trimLeftASCII -/
def A165 (a0 a1 : D) (L : List Bx) (R : AE → List Bx → Prop) : Prop :=
alp [a0] L fun v1 w1 k1 =>
alenS (aix v1 0) fun t6 =>
aar .gtr t6 (.i 0) fun t7 =>
acnd t7 (aidxStr (aix v1 0) (.i 0) fun t10 =>
acallW pr 175 [a1, t10] w1 (apn R) fun t11 w2 =>
anotb t11 fun t12 =>
acnd t12 (R (.ret (aix v1 0)) w2) (aslcS (aix v1 0) (some (.i 1)) none fun t14 =>
k1 [t14] w2)) (R (.ret (aix v1 0)) w1)
theorem A165_eq : A165 = fun a0 a1 L R => aex pr ⟨[(3, [0])], []⟩ (bodyOf fn165) (aenv0 [a0, a1]) L (apost pr fn165.results.toList R) := by kernel_rfl
theorem s165 {a0 a1 : D} {L : List Bx} {R : AE → List Bx → Prop} (h : A165 a0 a1 L R) : ASpec pr 165 [a0, a1] L R :=
  aspec_of (A := ⟨[(3, [0])], []⟩) (fn := fn165) 2 mixed Tryz.func165 (by kernel_rfl) (by decide) rfl (by kernel_rfl) (by rw [A165_eq] at h; exact h)
noncomputable abbrev fn166 : Func := Tryz.f166
/- strings.trimRightASCII -/
def A166 (a0 a1 : D) (L : List Bx) (R : AE → List Bx → Prop) : Prop :=
alp [a0] L fun v1 w1 k1 =>
alenS (aix v1 0) fun t6 =>
aar .gtr t6 (.i 0) fun t7 =>
acnd t7 (alenS (aix v1 0) fun t11 =>
aar .sub t11 (.i 1) fun t12 =>
aidxStr (aix v1 0) t12 fun t13 =>
acallW pr 175 [a1, t13] w1 (apn R) fun t14 w2 =>
anotb t14 fun t15 =>
acnd t15 (R (.ret (aix v1 0)) w2) (alenS (aix v1 0) fun t18 =>
aar .sub t18 (.i 1) fun t19 =>
aslcS (aix v1 0) none (some t19) fun t20 =>
k1 [t20] w2)) (R (.ret (aix v1 0)) w1)
theorem A166_eq : A166 = fun a0 a1 L R => aex pr ⟨[(3, [0])], []⟩ (bodyOf fn166) (aenv0 [a0, a1]) L (apost pr fn166.results.toList R) := by kernel_rfl
theorem s166 {a0 a1 : D} {L : List Bx} {R : AE → List Bx → Prop} (h : A166 a0 a1 L R) : ASpec pr 166 [a0, a1] L R :=
  aspec_of (A := ⟨[(3, [0])], []⟩) (fn := fn166) 2 mixed Tryz.func166 (by kernel_rfl) (by decide) rfl (by kernel_rfl) (by rw [A166_eq] at h; exact h)
noncomputable abbrev fn175 : Func := Tryz.f175
/- (*strings.asciiSet).contains -/
def A175 (a0 a1 : D) (L : List Bx) (R : AE → List Bx → Prop) : Prop :=
anilc a0 fun t7 =>
aidxP 256 1 t7 a1 fun t8 =>
ald1 t8 L fun t9 =>
R (.ret t9) L
theorem A175_eq : A175 = fun a0 a1 L R => aex pr ⟨[], []⟩ (bodyOf fn175) (aenv0 [a0, a1]) L (apost pr fn175.results.toList R) := by kernel_rfl
theorem s175 {a0 a1 : D} {L : List Bx} {R : AE → List Bx → Prop} (h : A175 a0 a1 L R) : ASpec pr 175 [a0, a1] L R :=
  aspec_of (A := ⟨[], []⟩) (fn := fn175) 2 mixed Tryz.func175 (by kernel_rfl) (by decide) rfl (by kernel_rfl) (by rw [A175_eq] at h; exact h)
noncomputable abbrev fn119 : Func := Tryz.f119
/- ashlar/ashlarref03.deep -/
def A119 (a0 a1 : D) (L : List Bx) (R : AE → List Bx → Prop) : Prop :=
abxv a0 L fun t2 w1 =>
aar .eql a1 (.i 1) fun t8 =>
acnd t8 (R (.ret (.i 1)) w1) (alp [.i 0, .i 0] w1 fun v5 w2 k5 =>
afld 3 t2 fun t10 =>
ald1 t10 w2 fun t11 =>
alenL t11 fun t12 =>
aar .lss (aix v5 1) t12 fun t13 =>
acnd t13 (afld 3 t2 fun t17 =>
ald1 t17 w2 fun t18 =>
aidxS 4 t18 (aix v5 1) fun t20 =>
aldN 4 t20 w2 fun t21 =>
aar .sub a1 (.i 1) fun t23 =>
acallW pr 119 [t21, t23] w2 (apn R) fun t24 w3 =>
amax2 (aix v5 0) t24 fun t25 =>
aar .add (aix v5 1) (.i 1) fun t15 =>
k5 [t25, t15] w3) (aar .add (aix v5 0) (.i 1) fun t27 =>
R (.ret t27) w2))
theorem A119_eq : A119 = fun a0 a1 L R => aex pr ⟨[(11, [5, 6])], []⟩ (bodyOf fn119) (aenv0 [a0, a1]) L (apost pr fn119.results.toList R) := by kernel_rfl
theorem s119 {a0 a1 : D} {L : List Bx} {R : AE → List Bx → Prop} (h : A119 a0 a1 L R) : ASpec pr 119 [a0, a1] L R :=
  aspec_of (A := ⟨[(11, [5, 6])], []⟩) (fn := fn119) 2 mixed Tryz.func119 (by kernel_rfl) (by decide) rfl (by kernel_rfl) (by rw [A119_eq] at h; exact h)
noncomputable abbrev fn79 : Func := Tryz.f79
/- ashlar/ashlarref03.Deep -/
def A79 (a0 : D) (L : List Bx) (R : AE → List Bx → Prop) : Prop :=
abxv a0 L fun t1 w1 =>
aldN 4 t1 w1 fun t3 =>
acallW pr 119 [t3, .i 101] w1 (apn R) fun t4 w2 =>
R (.ret t4) w2
theorem A79_eq : A79 = fun a0 L R => aex pr ⟨[], []⟩ (bodyOf fn79) (aenv0 [a0]) L (apost pr fn79.results.toList R) := by kernel_rfl
theorem s79 {a0 : D} {L : List Bx} {R : AE → List Bx → Prop} (h : A79 a0 L R) : ASpec pr 79 [a0] L R :=
  aspec_of (A := ⟨[], []⟩) (fn := fn79) 1 mixed Tryz.func79 (by kernel_rfl) (by decide) rfl (by kernel_rfl) (by rw [A79_eq] at h; exact h)
noncomputable abbrev fn118 : Func := Tryz.f118
/- ashlar/ashlarref03.left -/
def A118 (a0 a1 : D) (L : List Bx) (R : AE → List Bx → Prop) : Prop :=
abxv a0 L fun t2 w1 =>
aar .eql a1 (.i 0) fun t7 =>
acnd t7 (R (.ret (.i 0)) w1) (aar .sub a1 (.i 1) fun t9 =>
alp [t9, .i 0] w1 fun v5 w2 k5 =>
ajn (fun v7 w3 =>
afld 3 t2 fun t21 =>
ald1 t21 w3 fun t22 =>
aidxS 4 t22 (aix v5 1) fun t24 =>
aldN 4 t24 w3 fun t25 =>
acallW pr 118 [t25, aix v5 0] w3 (apn R) fun t27 w4 =>
aar .add (aix v5 1) (.i 1) fun t20 =>
k5 [t27, t20] w4) fun j7 =>
afld 3 t2 fun t11 =>
ald1 t11 w2 fun t12 =>
alenL t12 fun t13 =>
aar .lss (aix v5 1) t13 fun t14 =>
acnd t14 (aar .gtr (aix v5 0) (.i 0) fun t17 =>
acnd t17 (j7 [] w2) (R (.ret (aix v5 0)) w2)) (R (.ret (aix v5 0)) w2))
theorem A118_eq : A118 = fun a0 a1 L R => aex pr ⟨[(11, [1, 5]), (14, [])], []⟩ (bodyOf fn118) (aenv0 [a0, a1]) L (apost pr fn118.results.toList R) := by kernel_rfl
theorem s118 {a0 a1 : D} {L : List Bx} {R : AE → List Bx → Prop} (h : A118 a0 a1 L R) : ASpec pr 118 [a0, a1] L R :=
  aspec_of (A := ⟨[(11, [1, 5]), (14, [])], []⟩) (fn := fn118) 2 mixed Tryz.func118 (by kernel_rfl) (by decide) rfl (by kernel_rfl) (by rw [A118_eq] at h; exact h)
noncomputable abbrev fn78 : Func := Tryz.f78
/- ashlar/ashlarref03.Size -/
def A78 (a0 : D) (L : List Bx) (R : AE → List Bx → Prop) : Prop :=
abxv a0 L fun t1 w1 =>
aldN 4 t1 w1 fun t3 =>
acallW pr 118 [t3, .i 2001] w1 (apn R) fun t4 w2 =>
aar .sub (.i 2001) t4 fun t5 =>
R (.ret t5) w2
theorem A78_eq : A78 = fun a0 L R => aex pr ⟨[], []⟩ (bodyOf fn78) (aenv0 [a0]) L (apost pr fn78.results.toList R) := by kernel_rfl
theorem s78 {a0 : D} {L : List Bx} {R : AE → List Bx → Prop} (h : A78 a0 L R) : ASpec pr 78 [a0] L R :=
  aspec_of (A := ⟨[], []⟩) (fn := fn78) 1 mixed Tryz.func78 (by kernel_rfl) (by decide) rfl (by kernel_rfl) (by rw [A78_eq] at h; exact h)
noncomputable abbrev fn80 : Func := Tryz.f80
/- ashlar/ashlarref03.sorted -/
def A80 (a0 : D) (L : List Bx) (R : AE → List Bx → Prop) : Prop :=
abxv a0 L fun t1 w1 =>
afld 0 t1 fun t10 =>
ald1 t10 w1 fun t11 =>
acallW pr 120 [t11] w1 (apn R) fun t12 w2 =>
aext 0 t12 fun t13 =>
aext 1 t12 fun t14 =>
afld 1 t1 fun t15 =>
ald1 t15 w2 fun t16 =>
acallW pr 98 [t16] w2 (apn R) fun t17 w3 =>
ajn (fun v5 w4 =>
ajn (fun v6 w5 =>
ajn (fun v8 w6 =>
alp [.i 0] w6 fun v9 w7 k9 =>
afld 3 t1 fun t73 =>
ald1 t73 w7 fun t74 =>
alenL t74 fun t75 =>
aar .lss (aix v9 0) t75 fun t76 =>
acnd t76 (afld 3 t1 fun t79 =>
ald1 t79 w7 fun t80 =>
aidxS 4 t80 (aix v9 0) fun t82 =>
aldN 4 t82 w7 fun t83 =>
acallW pr 80 [t83] w7 (apn R) fun t84 w8 =>
ajn (fun y89 w9 =>
acnd (aix y89 0) (R (.ret (.i 0)) w9) (anotb (aix v6 0) fun t92 =>
ajn (fun y100 w10 =>
acnd (aix y100 0) (R (.ret (.i 0)) w10) (aar .add (aix v9 0) (.i 1) fun t78 =>
k9 [t78] w10)) fun j100 =>
acnd t92 (aidxS 1 t14 (aix v9 0) fun t97 =>
ald1 t97 w9 fun t98 =>
aar .neq t84 t98 fun t99 =>
j100 [t99] w9) (j100 [.b false] w9))) fun j89 =>
acnd (aix v6 0) (aar .neq t84 (.i 4) fun t88 =>
j89 [t88] w8) (j89 [.b false] w8)) (R (.ret t13) w7)) fun j8 =>
anotb (aix v6 0) fun t63 =>
acnd t63 (afld 3 t1 fun t65 =>
ald1 t65 w5 fun t66 =>
alenL t66 fun t67 =>
alenL t14 fun t69 =>
aar .neq t67 t69 fun t70 =>
acnd t70 (R (.ret (.i 0)) w5) (j8 [] w5)) (j8 [] w5)) fun j6 =>
alenL t14 fun t54 =>
aar .eql t54 (.i 1) fun t55 =>
acnd t55 (aidxS 1 t14 (.i 0) fun t58 =>
ald1 t58 w4 fun t59 =>
aar .eql t59 (.i (-1)) fun t60 =>
j6 [t60] w4) (j6 [.b false] w4)) fun j5 =>
aar .eql t13 (.i 0) fun t19 =>
acnd t19 (R (.ret (.i 0)) w3) (afld 0 t1 fun t21 =>
ald1 t21 w3 fun t22 =>
acallW pr 121 [t22] w3 (apn R) fun t23 w11 =>
aarB .neq t23 t17 fun t25 =>
acnd t25 (R (.ret (.i 0)) w11) (afld 0 t1 fun t28 =>
ald1 t28 w11 fun t29 =>
acallW pr 121 [t29] w11 (apn R) fun t30 w12 =>
anotb t30 fun t31 =>
ajn (fun y36 w13 =>
acnd (aix y36 0) (R (.ret (.i 0)) w13) (afld 2 t1 fun t39 =>
ald1 t39 w13 fun t40 =>
aar .neq t40 (.i 0) fun t41 =>
acnd t41 (afld 0 t1 fun t43 =>
ald1 t43 w13 fun t44 =>
aar .neq t44 (.i 1) fun t45 =>
ajn (fun y51 w14 =>
acnd (aix y51 0) (R (.ret (.i 0)) w14) (j5 [] w14)) fun j51 =>
acnd t45 (afld 0 t1 fun t48 =>
ald1 t48 w13 fun t49 =>
aar .neq t49 (.i 6) fun t50 =>
j51 [t50] w13) (j51 [.b false] w13)) (ajn (fun y51 w15 =>
acnd (aix y51 0) (R (.ret (.i 0)) w15) (j5 [] w15)) fun j51 =>
j51 [.b false] w13))) fun j36 =>
acnd t31 (afld 1 t1 fun t33 =>
ald1 t33 w12 fun t34 =>
aar .neq t34 (.s ⟨#[]⟩) fun t35 =>
j36 [t35] w12) (j36 [.b false] w12)))
theorem A80_eq : A80 = fun a0 L R => aex pr ⟨[(10, []), (12, [6]), (16, []), (19, [7]), (3000036, []), (3000051, []), (3000089, []), (3000100, [])], []⟩ (bodyOf fn80) (aenv0 [a0]) L (apost pr fn80.results.toList R) := by kernel_rfl
theorem s80 {a0 : D} {L : List Bx} {R : AE → List Bx → Prop} (h : A80 a0 L R) : ASpec pr 80 [a0] L R :=
  aspec_of (A := ⟨[(10, []), (12, [6]), (16, []), (19, [7]), (3000036, []), (3000051, []), (3000089, []), (3000100, [])], []⟩) (fn := fn80) 1 mixed Tryz.func80 (by kernel_rfl) (by decide) rfl (by kernel_rfl) (by rw [A80_eq] at h; exact h)
noncomputable abbrev fn34 : Func := Tryz.f34
/- ashlar/ashlarref03.Sort -/
def A34 (a0 : D) (L : List Bx) (R : AE → List Bx → Prop) : Prop :=
abxv a0 L fun t1 w1 =>
aldN 4 t1 w1 fun t5 =>
acallW pr 78 [t5] w1 (apn R) fun t6 w2 =>
aar .gtr t6 (.i 2000) fun t7 =>
acnd t7 (R (.ret (.tuple [.i 0, .i 7])) w2) (aldN 4 t1 w2 fun t9 =>
acallW pr 79 [t9] w2 (apn R) fun t10 w3 =>
aar .gtr t10 (.i 100) fun t11 =>
acnd t11 (R (.ret (.tuple [.i 0, .i 7])) w3) (aldN 4 t1 w3 fun t13 =>
acallW pr 80 [t13] w3 (apn R) fun t14 w4 =>
aar .eql t14 (.i 0) fun t16 =>
acnd t16 (R (.ret (.tuple [.i 0, .i 3])) w4) (R (.ret (.tuple [t14, .i 0])) w4)))
theorem A34_eq : A34 = fun a0 L R => aex pr ⟨[], []⟩ (bodyOf fn34) (aenv0 [a0]) L (apost pr fn34.results.toList R) := by kernel_rfl
theorem s34 {a0 : D} {L : List Bx} {R : AE → List Bx → Prop} (h : A34 a0 L R) : ASpec pr 34 [a0] L R :=
  aspec_of (A := ⟨[], []⟩) (fn := fn34) 1 mixed Tryz.func34 (by kernel_rfl) (by decide) rfl (by kernel_rfl) (by rw [A34_eq] at h; exact h)
noncomputable abbrev fn98 : Func := Tryz.f98
/- ashlar/ashlarref03.Name -/
def A98 (a0 : D) (L : List Bx) (R : AE → List Bx → Prop) : Prop :=
ajn (fun v3 w1 =>
alp [.i 0] w1 fun v4 w2 k4 =>
alenS a0 fun t19 =>
aar .lss (aix v4 0) t19 fun t20 =>
acnd t20 (aidxStr a0 (aix v4 0) fun t25 =>
acallW pr 141 [t25] w2 (apn R) fun t26 w3 =>
anotb t26 fun t27 =>
acnd t27 (aidxStr a0 (aix v4 0) fun t31 =>
aar .lss t31 (.val (.int .u8 48)) fun t32 =>
ajn (fun y38 w4 =>
acnd (aix y38 0) (aidxStr a0 (aix v4 0) fun t43 =>
aar .neq t43 (.val (.int .u8 95)) fun t44 =>
acnd t44 (R (.ret (.b false)) w4) (aar .add (aix v4 0) (.i 1) fun t22 =>
k4 [t22] w4)) (aar .add (aix v4 0) (.i 1) fun t22 =>
k4 [t22] w4)) fun j38 =>
acnd t32 (j38 [.b true] w3) (aidxStr a0 (aix v4 0) fun t36 =>
aar .gtr t36 (.val (.int .u8 57)) fun t37 =>
j38 [t37] w3)) (aar .add (aix v4 0) (.i 1) fun t22 =>
k4 [t22] w3)) (R (.ret (.b true)) w2)) fun j3 =>
aar .eql a0 (.s ⟨#[]⟩) fun t5 =>
acnd t5 (R (.ret (.b false)) L) (alenS a0 fun t8 =>
aar .gtr t8 (.i 16) fun t9 =>
acnd t9 (R (.ret (.b false)) L) (aidxStr a0 (.i 0) fun t13 =>
acallW pr 141 [t13] L (apn R) fun t14 w5 =>
anotb t14 fun t15 =>
acnd t15 (R (.ret (.b false)) w5) (j3 [] w5)))
theorem A98_eq : A98 = fun a0 L R => aex pr ⟨[(6, []), (9, [3]), (3000038, [])], []⟩ (bodyOf fn98) (aenv0 [a0]) L (apost pr fn98.results.toList R) := by kernel_rfl
theorem s98 {a0 : D} {L : List Bx} {R : AE → List Bx → Prop} (h : A98 a0 L R) : ASpec pr 98 [a0] L R :=
  aspec_of (A := ⟨[(6, []), (9, [3]), (3000038, [])], []⟩) (fn := fn98) 1 mixed Tryz.func98 (by kernel_rfl) (by decide) rfl (by kernel_rfl) (by rw [A98_eq] at h; exact h)
noncomputable abbrev fn141 : Func := Tryz.f141
/- ashlar/ashlarref03.letter -/
def A141 (a0 : D) (L : List Bx) (R : AE → List Bx → Prop) : Prop :=
aar .geq a0 (.val (.int .u8 97)) fun t4 =>
ajn (fun y8 w1 =>
acnd (aix y8 0) (R (.ret (.b true)) w1) (aar .geq a0 (.val (.int .u8 65)) fun t11 =>
ajn (fun y15 w2 =>
R (.ret (aix y15 0)) w2) fun j15 =>
acnd t11 (aar .leq a0 (.val (.int .u8 90)) fun t14 =>
j15 [t14] w1) (j15 [.b false] w1))) fun j8 =>
acnd t4 (aar .leq a0 (.val (.int .u8 122)) fun t7 =>
j8 [t7] L) (j8 [.b false] L)
theorem A141_eq : A141 = fun a0 L R => aex pr ⟨[(3000008, []), (3000015, [])], []⟩ (bodyOf fn141) (aenv0 [a0]) L (apost pr fn141.results.toList R) := by kernel_rfl
theorem s141 {a0 : D} {L : List Bx} {R : AE → List Bx → Prop} (h : A141 a0 L R) : ASpec pr 141 [a0] L R :=
  aspec_of (A := ⟨[(3000008, []), (3000015, [])], []⟩) (fn := fn141) 1 mixed Tryz.func141 (by kernel_rfl) (by decide) rfl (by kernel_rfl) (by rw [A141_eq] at h; exact h)
noncomputable abbrev fn120 : Func := Tryz.f120
/- ashlar/ashlarref03.shape -/
def A120 (a0 : D) (L : List Bx) (R : AE → List Bx → Prop) : Prop :=
ajn (fun v4 w1 =>
acnd (aix v4 0) (R (.ret (.tuple [.i 1, .nil])) w1) (aar .eql a0 (.i 3) fun t9 =>
acnd t9 (abldS 3 1 1 [.i 0] [(0, 1, .i 2)] w1 fun t10 w2 =>
R (.ret (.tuple [.i 1, t10])) w2) (ajn (fun v9 w3 =>
acnd (aix v9 0) (abldS 3 1 2 [.i 0, .i 0] [(0, 1, .i 1), (1, 1, .i 1)] w3 fun t14 w4 =>
R (.ret (.tuple [.i 1, t14])) w4) (aar .eql a0 (.i 6) fun t16 =>
acnd t16 (abldS 3 1 1 [.i 0] [(0, 1, .i 1)] w3 fun t17 w5 =>
R (.ret (.tuple [.i 1, t17])) w5) (ajn (fun v15 w6 =>
acnd (aix v15 0) (R (.ret (.tuple [.i 2, .nil])) w6) (aar .eql a0 (.i 10) fun t23 =>
acnd t23 (abldS 3 1 1 [.i 0] [(0, 1, .i 3)] w6 fun t24 w7 =>
R (.ret (.tuple [.i 2, t24])) w7) (ajn (fun v21 w8 =>
acnd (aix v21 0) (abldS 3 1 2 [.i 0, .i 0] [(0, 1, .i 2), (1, 1, .i 2)] w8 fun t29 w9 =>
R (.ret (.tuple [.i 2, t29])) w9) (aar .eql a0 (.i 14) fun t31 =>
acnd t31 (R (.ret (.tuple [.i 3, .nil])) w8) (ajn (fun v27 w10 =>
acnd (aix v27 0) (R (.ret (.tuple [.i 4, .nil])) w10) (aar .eql a0 (.i 18) fun t37 =>
acnd t37 (abldS 3 1 1 [.i 0] [(0, 1, .i 4)] w10 fun t38 w11 =>
R (.ret (.tuple [.i 4, t38])) w11) (ajn (fun v32 w12 =>
acnd (aix v32 0) (abldS 3 1 1 [.i 0] [(0, 1, .i (-1))] w12 fun t42 w13 =>
R (.ret (.tuple [.i 4, t42])) w13) (aar .eql a0 (.i 21) fun t44 =>
acnd t44 (abldS 3 1 2 [.i 0, .i 0] [(0, 1, .i 4), (1, 1, .i 4)] w12 fun t45 w14 =>
R (.ret (.tuple [.i 4, t45])) w14) (ajn (fun v38 w15 =>
acnd (aix v38 0) (abldS 3 1 2 [.i 0, .i 0] [(0, 1, .i 1), (1, 1, .i 1)] w15 fun t50 w16 =>
R (.ret (.tuple [.i 4, t50])) w16) (aar .eql a0 (.i 25) fun t52 =>
acnd t52 (abldS 3 1 2 [.i 0, .i 0] [(0, 1, .i 3), (1, 1, .i 2)] w15 fun t53 w17 =>
R (.ret (.tuple [.i 4, t53])) w17) (aar .eql a0 (.i 26) fun t55 =>
acnd t55 (acnd t55 (abldS 3 1 2 [.i 0, .i 0] [(0, 1, .i 2), (1, 1, .i 2)] w15 fun t57 w18 =>
R (.ret (.tuple [.i 4, t57])) w18) (aar .eql a0 (.i 28) fun t59 =>
acnd t59 (abldS 3 1 2 [.i 0, .i 0] [(0, 1, .i 3), (1, 1, .i 3)] w15 fun t60 w19 =>
R (.ret (.tuple [.i 4, t60])) w19) (R (.ret (.tuple [.i 0, .nil])) w15))) (aar .eql a0 (.i 27) fun t56 =>
acnd t56 (abldS 3 1 2 [.i 0, .i 0] [(0, 1, .i 2), (1, 1, .i 2)] w15 fun t57 w20 =>
R (.ret (.tuple [.i 4, t57])) w20) (aar .eql a0 (.i 28) fun t59 =>
acnd t59 (abldS 3 1 2 [.i 0, .i 0] [(0, 1, .i 3), (1, 1, .i 3)] w15 fun t60 w21 =>
R (.ret (.tuple [.i 4, t60])) w21) (R (.ret (.tuple [.i 0, .nil])) w15)))))) fun j38 =>
aar .eql a0 (.i 22) fun t47 =>
acnd t47 (j38 [t47] w12) (aar .eql a0 (.i 23) fun t48 =>
acnd t48 (j38 [t48] w12) (aar .eql a0 (.i 24) fun t49 =>
j38 [t49] w12))))) fun j32 =>
aar .eql a0 (.i 19) fun t40 =>
acnd t40 (j32 [t40] w10) (aar .eql a0 (.i 20) fun t41 =>
j32 [t41] w10)))) fun j27 =>
aar .eql a0 (.i 15) fun t33 =>
acnd t33 (j27 [t33] w8) (aar .eql a0 (.i 16) fun t34 =>
acnd t34 (j27 [t34] w8) (aar .eql a0 (.i 17) fun t35 =>
j27 [t35] w8))))) fun j21 =>
aar .eql a0 (.i 11) fun t26 =>
acnd t26 (j21 [t26] w6) (aar .eql a0 (.i 12) fun t27 =>
acnd t27 (j21 [t27] w6) (aar .eql a0 (.i 13) fun t28 =>
j21 [t28] w6))))) fun j15 =>
aar .eql a0 (.i 7) fun t19 =>
acnd t19 (j15 [t19] w3) (aar .eql a0 (.i 8) fun t20 =>
acnd t20 (j15 [t20] w3) (aar .eql a0 (.i 9) fun t21 =>
j15 [t21] w3))))) fun j9 =>
aar .eql a0 (.i 4) fun t12 =>
acnd t12 (j9 [t12] w1) (aar .eql a0 (.i 5) fun t13 =>
j9 [t13] w1)))) fun j4 =>
aar .eql a0 (.i 1) fun t6 =>
acnd t6 (j4 [t6] L) (aar .eql a0 (.i 2) fun t7 =>
j4 [t7] L)
theorem A120_eq : A120 = fun a0 L R => aex pr ⟨[(8, [5]), (18, [11]), (30, [18]), (42, [25]), (54, [32]), (64, [39]), (76, [46])], []⟩ (bodyOf fn120) (aenv0 [a0]) L (apost pr fn120.results.toList R) := by kernel_rfl
theorem s120 {a0 : D} {L : List Bx} {R : AE → List Bx → Prop} (h : A120 a0 L R) : ASpec pr 120 [a0] L R :=
  aspec_of (A := ⟨[(8, [5]), (18, [11]), (30, [18]), (42, [25]), (54, [32]), (64, [39]), (76, [46])], []⟩) (fn := fn120) 1 mixed Tryz.func120 (by kernel_rfl) (by decide) rfl (by kernel_rfl) (by rw [A120_eq] at h; exact h)
noncomputable abbrev fn121 : Func := Tryz.f121
/- ashlar/ashlarref03.Var -/
def A121 (a0 : D) (L : List Bx) (R : AE → List Bx → Prop) : Prop :=
aar .eql a0 (.i 2) fun t4 =>
acnd t4 (R (.ret (.b true)) L) (aar .eql a0 (.i 7) fun t7 =>
acnd t7 (R (.ret (.b true)) L) (aar .eql a0 (.i 14) fun t11 =>
acnd t11 (R (.ret (.b true)) L) (aar .eql a0 (.i 15) fun t15 =>
R (.ret t15) L)))
theorem A121_eq : A121 = fun a0 L R => aex pr ⟨[], []⟩ (bodyOf fn121) (aenv0 [a0]) L (apost pr fn121.results.toList R) := by kernel_rfl
theorem s121 {a0 : D} {L : List Bx} {R : AE → List Bx → Prop} (h : A121 a0 L R) : ASpec pr 121 [a0] L R :=
  aspec_of (A := ⟨[], []⟩) (fn := fn121) 1 mixed Tryz.func121 (by kernel_rfl) (by decide) rfl (by kernel_rfl) (by rw [A121_eq] at h; exact h)
end Go.Proofs.YtokpeggkofjclaaGreatDoor
