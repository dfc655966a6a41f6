/- What must hold ahead of a call, function by function: printed by a program. -/
import Derived.Test.YtdalobojhfafbaaGreatDoorW14
import Derived.KernelRfl
set_option maxRecDepth 100000
set_option linter.unusedVariables false
namespace Go.Proofs.YtdalobojhfafbaaGreatDoor
open Go Go.V
noncomputable abbrev fn67 : Func := Tryz.f67
def A67 (a0 a1 : D) (L : List Bx) (R : AE → List Bx → Prop) : Prop :=
abx [.i 0, .s ⟨#[]⟩, .i 0, .nil] L fun t4 w1 =>
abld [.i 0, .s ⟨#[]⟩, .i 0, .nil] [(0, 1, a0), (3, 1, a1)] fun t7 =>
ast 4 t4 t7 w1 fun w2 =>
aldN 4 t4 w2 fun r0 =>
R (.ret r0) w2
theorem A67_eq : A67 = fun a0 a1 L R => aex pr ⟨[], []⟩ (bodyOf fn67) (aenv0 [a0, a1]) L (apost pr fn67.results.toList R) := by kernel_rfl
theorem s67 {a0 a1 : D} {L : List Bx} {R : AE → List Bx → Prop} (h : A67 a0 a1 L R) : ASpec pr 67 [a0, a1] L R :=
  aspec_of (A := ⟨[], []⟩) (fn := fn67) 2 mixed Tryz.func67 (by kernel_rfl) (by decide) rfl (by kernel_rfl) (by rw [A67_eq] at h; exact h)
noncomputable abbrev fn73 : Func := Tryz.f73
def A73 (a0 : D) (L : List Bx) (R : AE → List Bx → Prop) : Prop :=
abxv a0 L fun t1 w1 =>
abx [.i 0, .s ⟨#[]⟩, .i 0, .nil] w1 fun t2 w2 =>
aldN 4 t1 w2 fun t7 =>
acallW pr 69 [t7] w2 (apn R) fun t8 w3 =>
aext 0 t8 fun t9 =>
aext 1 t8 fun t10 =>
aar .neq t10 (.i 0) fun t12 =>
acnd t12 (abld [.i 0, .s ⟨#[]⟩, .i 0, .nil] [] fun t13 =>
ast 4 t2 t13 w3 fun w4 =>
aldN 4 t2 w4 fun r0 =>
R (.ret (.tuple [r0, .i 7])) w4) (aldN 4 t1 w3 fun t14 =>
ast 4 t2 t14 w3 fun w5 =>
aldN 4 t2 w5 fun r0 =>
R (.ret (.tuple [r0, .i 0])) w5)
theorem A73_eq : A73 = fun a0 L R => aex pr ⟨[], []⟩ (bodyOf fn73) (aenv0 [a0]) L (apost pr fn73.results.toList R) := by kernel_rfl
theorem s73 {a0 : D} {L : List Bx} {R : AE → List Bx → Prop} (h : A73 a0 L R) : ASpec pr 73 [a0] L R :=
  aspec_of (A := ⟨[], []⟩) (fn := fn73) 1 mixed Tryz.func73 (by kernel_rfl) (by decide) rfl (by kernel_rfl) (by rw [A73_eq] at h; exact h)
noncomputable abbrev fn66 : Func := Tryz.f66
def A66 (a0 a1 : D) (L : List Bx) (R : AE → List Bx → Prop) : Prop :=
abxv a0 L fun t2 w1 =>
abxv a1 w1 fun t3 w2 =>
aldN 11 t2 w2 fun t10 =>
acallW pr 26 [t10] w2 (apn R) fun t11 w3 =>
aar .neq t11 (.i 0) fun t13 =>
acnd t13 (R (.ret t11) w3) (aldN 4 t3 w3 fun t16 =>
acallW pr 69 [t16] w3 (apn R) fun t17 w4 =>
aext 0 t17 fun t18 =>
aext 1 t17 fun t19 =>
aar .neq t19 (.i 0) fun t21 =>
acnd t21 (R (.ret t19) w4) (aar .neq t18 (.i 4) fun t24 =>
acnd t24 (R (.ret (.i 3)) w4) (aldN 4 t3 w4 fun t25 =>
acallW pr 100 [t25] w4 (apn R) fun t26 w5 =>
alenL t26 fun t27 =>
alp [.i 0] w5 fun v10 w6 k10 =>
aar .lss (aix v10 0) t27 fun t29 =>
acnd t29 (aidxS 5 t26 (aix v10 0) fun t30 =>
aldN 5 t30 w6 fun t31 =>
abx [.s ⟨#[]⟩, .i 0, .s ⟨#[]⟩, .i 0, .nil] w6 fun t9 w7 =>
ast 5 t9 t31 w7 fun w8 =>
afld 1 t9 fun t32 =>
afld 0 t32 fun t33 =>
ald1 t33 w8 fun t34 =>
aar .eql t34 (.i 14) fun t35 =>
acnd t35 (R (.ret (.i 4)) w8) (aar .add (aix v10 0) (.i 1) fun t36 =>
k10 [t36] w8)) (R (.ret (.i 0)) w6))))
theorem A66_eq : A66 = fun a0 a1 L R => aex pr ⟨[(21, [28])], []⟩ (bodyOf fn66) (aenv0 [a0, a1]) L (apost pr fn66.results.toList R) := by kernel_rfl
theorem s66 {a0 a1 : D} {L : List Bx} {R : AE → List Bx → Prop} (h : A66 a0 a1 L R) : ASpec pr 66 [a0, a1] L R :=
  aspec_of (A := ⟨[(21, [28])], []⟩) (fn := fn66) 2 mixed Tryz.func66 (by kernel_rfl) (by decide) rfl (by kernel_rfl) (by rw [A66_eq] at h; exact h)
noncomputable abbrev fn68 : Func := Tryz.f68
def A68 (a0 a1 : D) (L : List Bx) (R : AE → List Bx → Prop) : Prop :=
abxv a0 L fun t2 w1 =>
abx [.i 0, .s ⟨#[]⟩, .i 0, .nil] w1 fun t4 w2 =>
aldN 4 t2 w2 fun t9 =>
acallW pr 107 [t9, a1] w2 (apn R) fun t11 w3 =>
aext 0 t11 fun t12 =>
aext 1 t11 fun t13 =>
abx [.i 0, .s ⟨#[]⟩, .i 0, .nil] w3 fun t6 w4 =>
ast 4 t6 t12 w4 fun w5 =>
aar .neq t13 (.i 0) fun t15 =>
acnd t15 (abld [.i 0, .s ⟨#[]⟩, .i 0, .nil] [] fun t16 =>
ast 4 t4 t16 w5 fun w6 =>
aldN 4 t4 w6 fun r0 =>
R (.ret (.tuple [r0, .i 7])) w6) (aldN 4 t6 w5 fun t17 =>
ast 4 t4 t17 w5 fun w7 =>
aldN 4 t4 w7 fun r0 =>
R (.ret (.tuple [r0, .i 0])) w7)
theorem A68_eq : A68 = fun a0 a1 L R => aex pr ⟨[], []⟩ (bodyOf fn68) (aenv0 [a0, a1]) L (apost pr fn68.results.toList R) := by kernel_rfl
theorem s68 {a0 a1 : D} {L : List Bx} {R : AE → List Bx → Prop} (h : A68 a0 a1 L R) : ASpec pr 68 [a0, a1] L R :=
  aspec_of (A := ⟨[], []⟩) (fn := fn68) 2 mixed Tryz.func68 (by kernel_rfl) (by decide) rfl (by kernel_rfl) (by rw [A68_eq] at h; exact h)
noncomputable abbrev fn74 : Func := Tryz.f74
def A74 (a0 a1 : D) (L : List Bx) (R : AE → List Bx → Prop) : Prop :=
abxv a0 L fun t2 w1 =>
abxv a1 w1 fun t3 w2 =>
abx [.i 0, .s ⟨#[]⟩, .i 0, .nil] w2 fun t4 w3 =>
afld 3 t2 fun t6 =>
aldN 4 t6 w3 fun t7 =>
abldS 27 4 1 [.i 0, .s ⟨#[]⟩, .i 0, .nil] [(0, 4, t7)] w3 fun t8 w4 =>
acallW pr 67 [.i 19, t8] w4 (apn R) fun t9 w5 =>
abx [.i 0, .s ⟨#[]⟩, .i 0, .nil] w5 fun t5 w6 =>
ast 4 t5 t9 w6 fun w7 =>
afld 0 t2 fun t10 =>
ald1 t10 w7 fun t11 =>
anotb t11 fun t12 =>
acnd t12 (afld 3 t5 fun t13 =>
ald1 t13 w7 fun t14 =>
aldN 4 t3 w7 fun t15 =>
afld 1 t2 fun t16 =>
ald1 t16 w7 fun t17 =>
abld [.i 0, .s ⟨#[]⟩, .i 0, .nil] [(0, 1, .i 7), (1, 1, t17)] fun t18 =>
abldF 4 2 [.i 0, .s ⟨#[]⟩, .i 0, .nil, .i 0, .s ⟨#[]⟩, .i 0, .nil] [(0, 4, t15), (4, 4, t18)] fun t19 =>
acallS pr 67 [.i 25, t19] w7 (fun _ _ => False) fun t20 w8 =>
abldF 4 1 [.i 0, .s ⟨#[]⟩, .i 0, .nil] [(0, 4, t20)] fun t21 =>
aapp 27 4 56 t14 t21 w8 fun t22 w9 =>
afld 3 t5 fun t23 =>
ast 1 t23 t22 w9 fun w10 =>
aldN 4 t5 w10 fun t24 =>
ast 4 t4 t24 w10 fun w11 =>
aldN 4 t4 w11 fun r0 =>
R (.ret r0) w11) (aldN 4 t5 w7 fun t24 =>
ast 4 t4 t24 w7 fun w12 =>
aldN 4 t4 w12 fun r0 =>
R (.ret r0) w12)
theorem A74_eq : A74 = fun a0 a1 L R => aex pr ⟨[], [(3, [(0, 0), (1, 0), (2, 0), (3, 0), (4, 0), (5, 0), (6, 0), (7, 0), (8, 0), (9, 2), (10, 0), (11, 2)])]⟩ (bodyOf fn74) (aenv0 [a0, a1]) L (apost pr fn74.results.toList R) := by kernel_rfl
theorem s74 {a0 a1 : D} {L : List Bx} {R : AE → List Bx → Prop} (h : A74 a0 a1 L R) : ASpec pr 74 [a0, a1] L R :=
  aspec_of (A := ⟨[], [(3, [(0, 0), (1, 0), (2, 0), (3, 0), (4, 0), (5, 0), (6, 0), (7, 0), (8, 0), (9, 2), (10, 0), (11, 2)])]⟩) (fn := fn74) 2 mixed Tryz.func74 (by kernel_rfl) (by decide) rfl (by kernel_rfl) (by rw [A74_eq] at h; exact h)
noncomputable abbrev fn72 : Func := Tryz.f72
def A72 (a0 a1 : D) (L : List Bx) (R : AE → List Bx → Prop) : Prop :=
abxv a0 L fun t2 w1 =>
abxv a1 w1 fun t3 w2 =>
afld 7 t2 fun t8 =>
ald1 t8 w2 fun t9 =>
aapp 68 5 72 (.nil) t9 w2 fun t10 w3 =>
afld 8 t2 fun t11 =>
ald1 t11 w3 fun t12 =>
alenL t12 fun t13 =>
alp [t10, .i 0] w3 fun v3 w4 k3 =>
aar .lss (aix v3 1) t13 fun t15 =>
acnd t15 (aidxS 1 t12 (aix v3 1) fun t16 =>
ald1 t16 w4 fun t17 =>
abld [.i 0, .s ⟨#[]⟩, .i 0, .nil] [(0, 1, .i 7), (1, 1, t17)] fun t21 =>
aldN 4 t3 w4 fun t22 =>
abldS 27 4 1 [.i 0, .s ⟨#[]⟩, .i 0, .nil] [(0, 4, t22)] w4 fun t23 w5 =>
acallW pr 67 [.i 10, t23] w5 (apn R) fun t24 w6 =>
abldS 27 4 2 [.i 0, .s ⟨#[]⟩, .i 0, .nil, .i 0, .s ⟨#[]⟩, .i 0, .nil] [(0, 4, t21), (4, 4, t24)] w6 fun t25 w7 =>
acallW pr 67 [.i 11, t25] w7 (apn R) fun t26 w8 =>
abld [.s ⟨#[]⟩, .i 0, .s ⟨#[]⟩, .i 0, .nil] [(0, 1, t17), (1, 4, t26)] fun t27 =>
abldS 68 5 1 [.s ⟨#[]⟩, .i 0, .s ⟨#[]⟩, .i 0, .nil] [(0, 5, t27)] w8 fun t28 w9 =>
aapp 68 5 72 (aix v3 0) t28 w9 fun t29 w10 =>
aar .add (aix v3 1) (.i 1) fun t30 =>
k3 [t29, t30] w10) (R (.ret (aix v3 0)) w4)
theorem A72_eq : A72 = fun a0 a1 L R => aex pr ⟨[(7, [5, 14])], []⟩ (bodyOf fn72) (aenv0 [a0, a1]) L (apost pr fn72.results.toList R) := by kernel_rfl
theorem s72 {a0 a1 : D} {L : List Bx} {R : AE → List Bx → Prop} (h : A72 a0 a1 L R) : ASpec pr 72 [a0, a1] L R :=
  aspec_of (A := ⟨[(7, [5, 14])], []⟩) (fn := fn72) 2 mixed Tryz.func72 (by kernel_rfl) (by decide) rfl (by kernel_rfl) (by rw [A72_eq] at h; exact h)
noncomputable abbrev fn30 : Func := Tryz.f30
def A30 (a0 a1 : D) (L : List Bx) (R : AE → List Bx → Prop) : Prop :=
abxv a0 L fun t2 w1 =>
abxv a1 w1 fun t3 w2 =>
abx [.i 0, .s ⟨#[]⟩, .i 0, .nil] w2 fun t4 w3 =>
aldN 11 t2 w3 fun t12 =>
aldN 4 t3 w3 fun t13 =>
acallW pr 66 [t12, t13] w3 (apn R) fun t14 w4 =>
aar .neq t14 (.i 0) fun t16 =>
acnd t16 (abld [.i 0, .s ⟨#[]⟩, .i 0, .nil] [] fun t17 =>
ast 4 t4 t17 w4 fun w5 =>
aldN 4 t4 w5 fun r0 =>
R (.ret (.tuple [r0, t14])) w5) (afld 4 t2 fun t19 =>
ald1 t19 w4 fun t20 =>
aapp 68 5 72 (.nil) t20 w4 fun t21 w6 =>
afld 0 t2 fun t22 =>
ald1 t22 w6 fun t23 =>
abld [.nil, .i 0] [(0, 1, t23), (1, 1, .i 1)] fun t24 =>
afld 1 t2 fun t25 =>
ald1 t25 w6 fun t26 =>
abld [.nil, .i 0] [(0, 1, t26), (1, 1, .i 17)] fun t27 =>
afld 2 t2 fun t28 =>
ald1 t28 w6 fun t29 =>
abld [.nil, .i 0] [(0, 1, t29), (1, 1, .i 8)] fun t30 =>
afld 3 t2 fun t31 =>
ald1 t31 w6 fun t32 =>
abld [.nil, .i 0] [(0, 1, t32), (1, 1, .i 8)] fun t33 =>
abldS 123 2 4 [.nil, .i 0, .nil, .i 0, .nil, .i 0, .nil, .i 0] [(0, 2, t24), (2, 2, t27), (4, 2, t30), (6, 2, t33)] w6 fun t34 w7 =>
alenL t34 fun t35 =>
alp [t21, .i 0] w7 fun v6 w8 k6 =>
aar .lss (aix v6 1) t35 fun t37 =>
acnd t37 (aidxS 2 t34 (aix v6 1) fun t38 =>
aldN 2 t38 w8 fun t39 =>
abx [.nil, .i 0] w8 fun t9 w9 =>
ast 2 t9 t39 w9 fun w10 =>
afld 0 t9 fun t40 =>
ald1 t40 w10 fun t41 =>
alenL t41 fun t42 =>
alp [aix v6 0, .i 0] w10 fun v9 w11 k9 =>
aar .lss (aix v9 1) t42 fun t44 =>
acnd t44 (aidxS 1 t41 (aix v9 1) fun t45 =>
ald1 t45 w11 fun t46 =>
afld 1 t9 fun t49 =>
ald1 t49 w11 fun t50 =>
acallW pr 67 [t50, .nil] w11 (apn R) fun t51 w12 =>
abld [.s ⟨#[]⟩, .i 0, .s ⟨#[]⟩, .i 0, .nil] [(0, 1, t46), (1, 4, t51)] fun t52 =>
abldS 68 5 1 [.s ⟨#[]⟩, .i 0, .s ⟨#[]⟩, .i 0, .nil] [(0, 5, t52)] w12 fun t53 w13 =>
aapp 68 5 72 (aix v9 0) t53 w13 fun t54 w14 =>
aar .add (aix v9 1) (.i 1) fun t55 =>
k9 [t54, t55] w14) (aar .add (aix v6 1) (.i 1) fun t56 =>
k6 [aix v9 0, t56] w11)) (aldN 4 t3 w8 fun t57 =>
acallW pr 68 [t57, aix v6 0] w8 (apn R) fun t59 w15 =>
aext 0 t59 fun t60 =>
aext 1 t59 fun t61 =>
ast 4 t4 t60 w15 fun w16 =>
aldN 4 t4 w16 fun r0 =>
R (.ret (.tuple [r0, t61])) w16))
theorem A30_eq : A30 = fun a0 a1 L R => aex pr ⟨[(13, [7, 36]), (19, [7, 43])], []⟩ (bodyOf fn30) (aenv0 [a0, a1]) L (apost pr fn30.results.toList R) := by kernel_rfl
theorem s30 {a0 a1 : D} {L : List Bx} {R : AE → List Bx → Prop} (h : A30 a0 a1 L R) : ASpec pr 30 [a0, a1] L R :=
  aspec_of (A := ⟨[(13, [7, 36]), (19, [7, 43])], []⟩) (fn := fn30) 2 mixed Tryz.func30 (by kernel_rfl) (by decide) rfl (by kernel_rfl) (by rw [A30_eq] at h; exact h)
noncomputable abbrev fn33 : Func := Tryz.f33
def A33 (a0 a1 a2 : D) (L : List Bx) (R : AE → List Bx → Prop) : Prop :=
abxv a0 L fun t3 w1 =>
abxv a2 w1 fun t5 w2 =>
abx [.i 0, .s ⟨#[]⟩, .i 0, .nil] w2 fun t6 w3 =>
aldN 11 t3 w3 fun t12 =>
aldN 4 t5 w3 fun t13 =>
acallW pr 66 [t12, t13] w3 (apn R) fun t14 w4 =>
aar .neq t14 (.i 0) fun t16 =>
acnd t16 (abld [.i 0, .s ⟨#[]⟩, .i 0, .nil] [] fun t17 =>
ast 4 t6 t17 w4 fun w5 =>
aldN 4 t6 w5 fun r0 =>
R (.ret (.tuple [r0, t14])) w5) (ajn (fun v6 w6 =>
afld 5 t3 fun t29 =>
ald1 t29 w6 fun t30 =>
aidxS 9 t30 a1 fun t32 =>
afld 2 t32 fun t33 =>
ald1 t33 w6 fun t34 =>
abld [.i 0, .s ⟨#[]⟩, .i 0, .nil] [(0, 1, .i 14), (1, 1, t34)] fun t35 =>
abx [.i 0, .s ⟨#[]⟩, .i 0, .nil] w6 fun t9 w7 =>
ast 4 t9 t35 w7 fun w8 =>
aldN 4 t5 w8 fun t37 =>
afld 5 t3 fun t38 =>
ald1 t38 w8 fun t39 =>
aidxS 9 t39 a1 fun t41 =>
aldN 9 t41 w8 fun t42 =>
aldN 4 t9 w8 fun t43 =>
acallS pr 72 [t42, t43] w8 (fun _ _ => False) fun t44 w9 =>
acallS pr 68 [t37, t44] w9 (fun _ _ => False) fun t45 w10 =>
aext 0 t45 fun t46 =>
aext 1 t45 fun t47 =>
abx [.i 0, .s ⟨#[]⟩, .i 0, .nil] w10 fun t10 w11 =>
ast 4 t10 t46 w11 fun w12 =>
aar .neq t47 (.i 0) fun t49 =>
acnd t49 (abld [.i 0, .s ⟨#[]⟩, .i 0, .nil] [] fun t50 =>
ast 4 t6 t50 w12 fun w13 =>
aldN 4 t6 w13 fun r0 =>
R (.ret (.tuple [r0, t47])) w13) (afld 5 t3 fun t52 =>
ald1 t52 w12 fun t53 =>
aidxS 9 t53 a1 fun t55 =>
aldN 9 t55 w12 fun t56 =>
aldN 4 t9 w12 fun t57 =>
acallS pr 74 [t56, t57] w12 (fun _ _ => False) fun t58 w14 =>
aldN 4 t10 w14 fun t59 =>
abldF 4 2 [.i 0, .s ⟨#[]⟩, .i 0, .nil, .i 0, .s ⟨#[]⟩, .i 0, .nil] [(0, 4, t58), (4, 4, t59)] fun t60 =>
acallS pr 67 [.i 21, t60] w14 (fun _ _ => False) fun t61 w15 =>
acallS pr 73 [t61] w15 (fun _ _ => False) fun t62 w16 =>
aext 0 t62 fun t63 =>
aext 1 t62 fun t64 =>
ast 4 t6 t63 w16 fun w17 =>
aldN 4 t6 w17 fun r0 =>
R (.ret (.tuple [r0, t64])) w17)) fun j6 =>
aar .lss a1 (.i 0) fun t20 =>
acnd t20 (abld [.i 0, .s ⟨#[]⟩, .i 0, .nil] [] fun t28 =>
ast 4 t6 t28 w4 fun w18 =>
aldN 4 t6 w18 fun r0 =>
R (.ret (.tuple [r0, .i 1])) w18) (afld 5 t3 fun t23 =>
ald1 t23 w4 fun t24 =>
alenL t24 fun t25 =>
aar .geq a1 t25 fun t26 =>
acnd t26 (abld [.i 0, .s ⟨#[]⟩, .i 0, .nil] [] fun t28 =>
ast 4 t6 t28 w4 fun w19 =>
aldN 4 t6 w19 fun r0 =>
R (.ret (.tuple [r0, .i 1])) w19) (j6 [] w4)))
theorem A33_eq : A33 = fun a0 a1 a2 L R => aex pr ⟨[(12, [])], [(7, [(0, 0), (1, 0), (2, 0), (3, 0), (4, 0), (5, 0), (6, 0), (7, 0), (8, 0), (9, 0), (10, 0), (11, 0), (12, 3), (13, 2), (14, 2)]), (10, [(0, 0), (1, 0), (2, 0), (3, 0), (4, 0), (5, 0), (6, 0), (7, 0), (8, 0), (9, 0), (10, 0), (11, 0), (12, 0), (13, 2), (14, 2)])]⟩ (bodyOf fn33) (aenv0 [a0, a1, a2]) L (apost pr fn33.results.toList R) := by kernel_rfl
theorem s33 {a0 a1 a2 : D} {L : List Bx} {R : AE → List Bx → Prop} (h : A33 a0 a1 a2 L R) : ASpec pr 33 [a0, a1, a2] L R :=
  aspec_of (A := ⟨[(12, [])], [(7, [(0, 0), (1, 0), (2, 0), (3, 0), (4, 0), (5, 0), (6, 0), (7, 0), (8, 0), (9, 0), (10, 0), (11, 0), (12, 3), (13, 2), (14, 2)]), (10, [(0, 0), (1, 0), (2, 0), (3, 0), (4, 0), (5, 0), (6, 0), (7, 0), (8, 0), (9, 0), (10, 0), (11, 0), (12, 0), (13, 2), (14, 2)])]⟩) (fn := fn33) 3 mixed Tryz.func33 (by kernel_rfl) (by decide) rfl (by kernel_rfl) (by rw [A33_eq] at h; exact h)
noncomputable abbrev fn103 : Func := Tryz.f103
def A103 (a0 a1 a2 a3 a4 a5 : D) (L : List Bx) (R : AE → List Bx → Prop) : Prop :=
abxv a2 L fun t8 w1 =>
ajn (fun v3 w2 =>
ald1 a5 w2 fun t13 =>
aldN 4 t8 w2 fun t16 =>
abld [.i 0, .i 0, .i 0, .s ⟨#[]⟩, .i 0, .nil] [(0, 1, a0), (1, 1, a1), (2, 4, t16)] fun t17 =>
abldS 121 6 1 [.i 0, .i 0, .i 0, .s ⟨#[]⟩, .i 0, .nil] [(0, 6, t17)] w2 fun t18 w3 =>
aapp 121 6 72 t13 t18 w3 fun t19 w4 =>
ast 1 a5 t19 w4 fun w5 =>
R (.ret (.tuple [])) w5) fun j3 =>
ald1 a4 w1 fun t10 =>
aar .eql t10 (.i 0) fun t11 =>
acnd t11 (ast 1 a4 a3 w1 fun w6 =>
j3 [] w6) (j3 [] w1)
theorem A103_eq : A103 = fun a0 a1 a2 a3 a4 a5 L R => aex pr ⟨[(6, [])], []⟩ (bodyOf fn103) (aenv0 [a0, a1, a2, a3, a4, a5]) L (apost pr fn103.results.toList R) := by kernel_rfl
theorem s103 {a0 a1 a2 a3 a4 a5 : D} {L : List Bx} {R : AE → List Bx → Prop} (h : A103 a0 a1 a2 a3 a4 a5 L R) : ASpec pr 103 [a0, a1, a2, a3, a4, a5] L R :=
  aspec_of (A := ⟨[(6, [])], []⟩) (fn := fn103) 6 mixed Tryz.func103 (by kernel_rfl) (by decide) rfl (by kernel_rfl) (by rw [A103_eq] at h; exact h)
noncomputable abbrev fn104 : Func := Tryz.f104
def A104 (a0 a1 a2 : D) (L : List Bx) (R : AE → List Bx → Prop) : Prop :=
abxv a0 L fun t3 w1 =>
abx [.i 0, .s ⟨#[]⟩, .i 0, .nil] w1 fun t5 w2 =>
aar .neq a1 (.i 0) fun t8 =>
acnd t8 (abld [.i 0, .s ⟨#[]⟩, .i 0, .nil] [] fun t9 =>
ast 4 t5 t9 w2 fun w3 =>
aldN 4 t5 w3 fun r0 =>
R (.ret (.tuple [r0, a1])) w3) (ald1 a2 w2 fun t11 =>
acallS pr 67 [.i 19, t11] w2 (fun _ _ => False) fun t12 w4 =>
aldN 4 t3 w4 fun t13 =>
abldF 4 2 [.i 0, .s ⟨#[]⟩, .i 0, .nil, .i 0, .s ⟨#[]⟩, .i 0, .nil] [(0, 4, t12), (4, 4, t13)] fun t14 =>
acallS pr 67 [.i 21, t14] w4 (fun _ _ => False) fun t15 w5 =>
acallS pr 73 [t15] w5 (fun _ _ => False) fun t16 w6 =>
aext 0 t16 fun t17 =>
aext 1 t16 fun t18 =>
ast 4 t5 t17 w6 fun w7 =>
aldN 4 t5 w7 fun r0 =>
R (.ret (.tuple [r0, t18])) w7)
theorem A104_eq : A104 = fun a0 a1 a2 L R => aex pr ⟨[], [(3, [(0, 0), (1, 0), (2, 0), (3, 0), (4, 0), (5, 0), (6, 0), (7, 0), (8, 2), (9, 2)])]⟩ (bodyOf fn104) (aenv0 [a0, a1, a2]) L (apost pr fn104.results.toList R) := by kernel_rfl
theorem s104 {a0 a1 a2 : D} {L : List Bx} {R : AE → List Bx → Prop} (h : A104 a0 a1 a2 L R) : ASpec pr 104 [a0, a1, a2] L R :=
  aspec_of (A := ⟨[], [(3, [(0, 0), (1, 0), (2, 0), (3, 0), (4, 0), (5, 0), (6, 0), (7, 0), (8, 2), (9, 2)])]⟩) (fn := fn104) 3 mixed Tryz.func104 (by kernel_rfl) (by decide) rfl (by kernel_rfl) (by rw [A104_eq] at h; exact h)
noncomputable abbrev fn64 : Func := Tryz.f64
def A64 (a0 a1 : D) (L : List Bx) (R : AE → List Bx → Prop) : Prop :=
abxv a0 L fun t2 w1 =>
abx [.nil] w1 fun t6 w2 =>
alenL a1 fun t26 =>
alp [.i 0] w2 fun v3 w3 k3 =>
aar .lss (aix v3 0) t26 fun t28 =>
acnd t28 (aidxS 1 a1 (aix v3 0) fun t29 =>
ald1 t29 w3 fun t30 =>
ajn (fun v7 w4 =>
ald1 t6 w4 fun t40 =>
afld 10 t2 fun t41 =>
ald1 t41 w4 fun t42 =>
aidxS 4 t42 t30 fun t44 =>
aldN 4 t44 w4 fun t45 =>
alenL t40 fun t46 =>
abldF 4 1 [.i 0, .s ⟨#[]⟩, .i 0, .nil] [(0, 4, .agg [.i 0, .s ⟨#[]⟩, .i 0, .nil])] fun t47 =>
aapp 27 4 56 t40 t47 w4 fun t48 w5 =>
aidxS 4 t48 t46 fun t49 =>
∃ (m10 : Nat) (x10 y10 : Bx) (d10 : D), w5[m10]? = some x10 ∧ y10.b = x10.b ∧
(ast 4 t49 t45 ([x10]) fun w6 =>
D.val undef = d10 ∧ w6 = [y10]) ∧
∃ (m11 : Nat) (x11 y11 : Bx) (d11 : D), ((w5.set m10 y10))[m11]? = some x11 ∧ y11.b = x11.b ∧
((List.map Bx.b ((w5.set m10 y10))).Nodup → x11.b ∉ [x10.b]) ∧
(ast 1 t6 t48 ([x11]) fun w7 =>
D.val undef = d11 ∧ w7 = [y11]) ∧
aar .add (aix v3 0) (.i 1) fun t50 =>
k3 [t50] ((((w5.set m10 y10)).set m11 y11))) fun j7 =>
aar .lss t30 (.i 0) fun t32 =>
acnd t32 (R (.ret (.tuple [.nil, .i 1])) w3) (afld 10 t2 fun t35 =>
ald1 t35 w3 fun t36 =>
alenL t36 fun t37 =>
aar .geq t30 t37 fun t38 =>
acnd t38 (R (.ret (.tuple [.nil, .i 1])) w3) (j7 [] w3))) (aldN 11 t2 w3 fun t51 =>
acallW pr 26 [t51] w3 (apn R) fun t52 w8 =>
aar .neq t52 (.i 0) fun t54 =>
acnd t54 (R (.ret (.tuple [.nil, t52])) w8) (abx [.nil] w8 fun t10 w9 =>
abx [.i 0] w9 fun t11 w10 =>
alenL a1 fun t59 =>
alp [.i 0] w10 fun v17 w11 k17 =>
aar .lss (aix v17 0) t59 fun t61 =>
acnd t61 (aidxS 1 a1 (aix v17 0) fun t63 =>
ald1 t63 w11 fun t64 =>
aldN 11 t2 w11 fun t66 =>
ald1 t6 w11 fun t67 =>
aidxS 4 t67 (aix v17 0) fun t69 =>
aldN 4 t69 w11 fun t70 =>
acallS pr 30 [t66, t70] w11 (fun _ _ => False) fun t71 w12 =>
aext 0 t71 fun t72 =>
aext 1 t71 fun t73 =>
abx [.i 0, .s ⟨#[]⟩, .i 0, .nil] w12 fun t16 w13 =>
ast 4 t16 t72 w13 fun w14 =>
aldN 4 t16 w14 fun t76 =>
acallW pr 103 [.i (-1), t64, t76, t73, t11, t10] w14 (apn R) fun t78 w15 =>
aar .add (aix v17 0) (.i 1) fun t79 =>
k17 [t79] w15) (afld 5 t2 fun t80 =>
ald1 t80 w11 fun t81 =>
alenL t81 fun t82 =>
alp [.i 0] w11 fun v23 w16 k23 =>
aar .lss (aix v23 0) t82 fun t84 =>
acnd t84 (alenL a1 fun t87 =>
alp [.i 0] w16 fun v26 w17 k26 =>
aar .lss (aix v26 0) t87 fun t89 =>
acnd t89 (aidxS 1 a1 (aix v26 0) fun t91 =>
ald1 t91 w17 fun t92 =>
aldN 11 t2 w17 fun t95 =>
ald1 t6 w17 fun t97 =>
aidxS 4 t97 (aix v26 0) fun t99 =>
aldN 4 t99 w17 fun t100 =>
acallS pr 33 [t95, aix v23 0, t100] w17 (fun _ _ => False) fun t101 w18 =>
aext 0 t101 fun t102 =>
aext 1 t101 fun t103 =>
acallS pr 104 [t102, t103, t6] w18 (fun _ _ => False) fun t104 w19 =>
aext 0 t104 fun t105 =>
aext 1 t104 fun t106 =>
abx [.i 0, .s ⟨#[]⟩, .i 0, .nil] w19 fun t21 w20 =>
ast 4 t21 t105 w20 fun w21 =>
aldN 4 t21 w21 fun t110 =>
acallW pr 103 [aix v23 0, t92, t110, t106, t11, t10] w21 (apn R) fun t112 w22 =>
aar .add (aix v26 0) (.i 1) fun t113 =>
k26 [t113] w22) (aar .add (aix v23 0) (.i 1) fun t114 =>
k23 [t114] w17)) (afld 6 t2 fun t117 =>
aldN 4 t117 w16 fun t118 =>
acallW pr 104 [t118, .i 0, t6] w16 (apn R) fun t119 w23 =>
aext 0 t119 fun t120 =>
aext 1 t119 fun t121 =>
abx [.i 0, .s ⟨#[]⟩, .i 0, .nil] w23 fun t23 w24 =>
ast 4 t23 t120 w24 fun w25 =>
aldN 4 t23 w25 fun t123 =>
acallW pr 103 [.i (-1), .i (-1), t123, t121, t11, t10] w25 (apn R) fun t125 w26 =>
ald1 t11 w26 fun t126 =>
aar .neq t126 (.i 0) fun t127 =>
acnd t127 (ald1 t11 w26 fun t128 =>
R (.ret (.tuple [.nil, t128])) w26) (ald1 t10 w26 fun t129 =>
R (.ret (.tuple [t129, .i 0])) w26)))))
theorem A64_eq : A64 = fun a0 a1 L R => aex pr ⟨[(7, [27]), (14, []), (35, [60]), (47, [83]), (53, [88])], [(7, [(0, 0), (1, 0), (2, 0), (3, 0), (4, 0), (5, 0), (6, 0), (7, 0), (8, 2), (9, 0), (10, 7), (11, 7)]), (19, [(0, 0), (1, 0), (2, 0), (3, 0), (4, 0), (5, 0), (6, 0), (7, 0), (8, 0), (9, 3), (10, 2), (11, 2)]), (28, [(0, 0), (1, 0), (2, 0), (3, 0), (4, 0), (5, 0), (6, 0), (7, 0), (8, 0), (9, 0), (10, 0), (11, 0), (12, 0), (13, 0), (14, 3), (15, 2), (16, 2)]), (35, [(0, 0), (1, 0), (2, 2)])]⟩ (bodyOf fn64) (aenv0 [a0, a1]) L (apost pr fn64.results.toList R) := by kernel_rfl
theorem s64 {a0 a1 : D} {L : List Bx} {R : AE → List Bx → Prop} (h : A64 a0 a1 L R) : ASpec pr 64 [a0, a1] L R :=
  aspec_of (A := ⟨[(7, [27]), (14, []), (35, [60]), (47, [83]), (53, [88])], [(7, [(0, 0), (1, 0), (2, 0), (3, 0), (4, 0), (5, 0), (6, 0), (7, 0), (8, 2), (9, 0), (10, 7), (11, 7)]), (19, [(0, 0), (1, 0), (2, 0), (3, 0), (4, 0), (5, 0), (6, 0), (7, 0), (8, 0), (9, 3), (10, 2), (11, 2)]), (28, [(0, 0), (1, 0), (2, 0), (3, 0), (4, 0), (5, 0), (6, 0), (7, 0), (8, 0), (9, 0), (10, 0), (11, 0), (12, 0), (13, 0), (14, 3), (15, 2), (16, 2)]), (35, [(0, 0), (1, 0), (2, 2)])]⟩) (fn := fn64) 2 mixed Tryz.func64 (by kernel_rfl) (by decide) rfl (by kernel_rfl) (by rw [A64_eq] at h; exact h)
noncomputable abbrev fn63 : Func := Tryz.f63
def A63 (L : List Bx) (R : AE → List Bx → Prop) : Prop :=
abx [.nil, .nil, .nil, .nil, .nil, .nil, .i 0, .s ⟨#[]⟩, .i 0, .nil, .nil] L fun t0 w1 =>
abld [.i 0, .s ⟨#[]⟩, .i 0, .nil] [(0, 1, .i 2), (1, 1, .s ⟨#[120]⟩)] fun t4 =>
abx [.i 0, .s ⟨#[]⟩, .i 0, .nil] w1 fun t1 w2 =>
ast 4 t1 t4 w2 fun w3 =>
aldN 4 t1 w3 fun t5 =>
abld [.i 0, .s ⟨#[]⟩, .i 0, .nil] [(0, 1, .i 1), (2, 1, .i 1)] fun t6 =>
abldS 27 4 2 [.i 0, .s ⟨#[]⟩, .i 0, .nil, .i 0, .s ⟨#[]⟩, .i 0, .nil] [(0, 4, t5), (4, 4, t6)] w3 fun t7 w4 =>
abld [.i 0, .s ⟨#[]⟩, .i 0, .nil] [(0, 1, .i 4), (3, 1, t7)] fun t8 =>
abx [.i 0, .s ⟨#[]⟩, .i 0, .nil] w4 fun t2 w5 =>
ast 4 t2 t8 w5 fun w6 =>
aldN 4 t1 w6 fun t9 =>
abld [.i 0, .s ⟨#[]⟩, .i 0, .nil] [(0, 1, .i 1), (2, 1, .i 3)] fun t10 =>
abldS 27 4 2 [.i 0, .s ⟨#[]⟩, .i 0, .nil, .i 0, .s ⟨#[]⟩, .i 0, .nil] [(0, 4, t9), (4, 4, t10)] w6 fun t11 w7 =>
abld [.i 0, .s ⟨#[]⟩, .i 0, .nil] [(0, 1, .i 22), (3, 1, t11)] fun t12 =>
abx [.i 0, .s ⟨#[]⟩, .i 0, .nil] w7 fun t3 w8 =>
ast 4 t3 t12 w8 fun w9 =>
abldS 9 1 1 [.s ⟨#[]⟩] [(0, 1, .s ⟨#[120]⟩)] w9 fun t13 w10 =>
aldN 4 t3 w10 fun t14 =>
aldN 4 t3 w10 fun t15 =>
abldS 27 4 1 [.i 0, .s ⟨#[]⟩, .i 0, .nil] [(0, 4, t15)] w10 fun t16 w11 =>
aldN 4 t1 w11 fun t17 =>
abld [.i 0, .s ⟨#[]⟩, .i 0, .nil] [(0, 1, .i 1), (2, 1, .i 3)] fun t18 =>
abldS 27 4 2 [.i 0, .s ⟨#[]⟩, .i 0, .nil, .i 0, .s ⟨#[]⟩, .i 0, .nil] [(0, 4, t17), (4, 4, t18)] w11 fun t19 w12 =>
abld [.i 0, .s ⟨#[]⟩, .i 0, .nil] [(0, 1, .i 23), (3, 1, t19)] fun t20 =>
aldN 4 t2 w12 fun t21 =>
abld [.s ⟨#[]⟩, .i 0, .s ⟨#[]⟩, .i 0, .nil] [(0, 1, .s ⟨#[120]⟩), (1, 4, t21)] fun t22 =>
abldS 68 5 1 [.s ⟨#[]⟩, .i 0, .s ⟨#[]⟩, .i 0, .nil] [(0, 5, t22)] w12 fun t23 w13 =>
abld [.b false, .s ⟨#[]⟩, .s ⟨#[]⟩, .i 0, .s ⟨#[]⟩, .i 0, .nil, .nil, .nil] [(0, 1, .b true), (1, 1, .s ⟨#[116]⟩), (2, 1, .s ⟨#[110]⟩), (3, 4, t20), (7, 1, t23)] fun t24 =>
abldS 66 9 1 [.b false, .s ⟨#[]⟩, .s ⟨#[]⟩, .i 0, .s ⟨#[]⟩, .i 0, .nil, .nil, .nil] [(0, 9, t24)] w13 fun t25 w14 =>
abld [.nil, .nil, .nil, .nil, .nil, .nil, .i 0, .s ⟨#[]⟩, .i 0, .nil, .nil] [(0, 1, t13), (6, 4, t14), (10, 1, t16), (5, 1, t25)] fun t26 =>
ast 11 t0 t26 w14 fun w15 =>
aldN 11 t0 w15 fun r0 =>
R (.ret r0) w15
theorem A63_eq : A63 = fun  L R => aex pr ⟨[], []⟩ (bodyOf fn63) (aenv0 []) L (apost pr fn63.results.toList R) := by kernel_rfl
theorem s63 {L : List Bx} {R : AE → List Bx → Prop} (h : A63  L R) : ASpec pr 63 [] L R :=
  aspec_of (A := ⟨[], []⟩) (fn := fn63) 0 mixed Tryz.func63 (by kernel_rfl) (by decide) rfl (by kernel_rfl) (by rw [A63_eq] at h; exact h)
end Go.Proofs.YtdalobojhfafbaaGreatDoor
