/- What must hold ahead of a call, function by function: printed by a program. -/
import Derived.Test.YtdalobojhfafbaaGreatDoorW14
import Derived.KernelRfl
set_option maxRecDepth 100000
set_option linter.unusedVariables false
namespace Go.Proofs.YtdalobojhfafbaaGreatDoor
open Go Go.V
noncomputable abbrev fn126 : Func := Tryz.f126
def A126 (a0 : D) (L : List Bx) (R : AE → List Bx → Prop) : Prop :=
aeqS false .eql a0 (.nil) fun t4 =>
acnd t4 (R (.ret (.nil)) L) (abldS 9 1 0 [] [] L fun t5 w1 =>
aapp 9 1 16 t5 a0 w1 fun t7 w2 =>
R (.ret t7) w2)
theorem A126_eq : A126 = fun a0 L R => aex pr ⟨[], []⟩ (bodyOf fn126) (aenv0 [a0]) L (apost pr fn126.results.toList R) := by kernel_rfl
theorem s126 {a0 : D} {L : List Bx} {R : AE → List Bx → Prop} (h : A126 a0 L R) : ASpec pr 126 [a0] L R :=
  aspec_of (A := ⟨[], []⟩) (fn := fn126) 1 mixed Tryz.func126 (by kernel_rfl) (by decide) rfl (by kernel_rfl) (by rw [A126_eq] at h; exact h)
noncomputable abbrev fn77 : Func := Tryz.f77
def A77 (a0 : D) (L : List Bx) (R : AE → List Bx → Prop) : Prop :=
abxv a0 L fun t1 w1 =>
abx [.i 0, .s ⟨#[]⟩, .i 0, .nil] w1 fun t2 w2 =>
afld 3 t1 fun t3 =>
ald1 t3 w2 fun t4 =>
acallW pr 123 [t4, .fn 77 [] []] w2 (apn R) fun t5 w3 =>
afld 3 t1 fun t6 =>
ast 1 t6 t5 w3 fun w4 =>
aldN 4 t1 w4 fun t7 =>
ast 4 t2 t7 w4 fun w5 =>
aldN 4 t2 w5 fun r0 =>
R (.ret r0) w5
theorem A77_eq : A77 = fun a0 L R => aex pr ⟨[], []⟩ (bodyOf fn77) (aenv0 [a0]) L (apost pr fn77.results.toList R) := by kernel_rfl
theorem s77 {a0 : D} {L : List Bx} {R : AE → List Bx → Prop} (h : A77 a0 L R) : ASpec pr 77 [a0] L R :=
  aspec_of (A := ⟨[], []⟩) (fn := fn77) 1 mixed Tryz.func77 (by kernel_rfl) (by decide) rfl (by kernel_rfl) (by rw [A77_eq] at h; exact h)
noncomputable abbrev fn123 : Func := Tryz.f123
def A123 (a0 a1 : D) (L : List Bx) (R : AE → List Bx → Prop) : Prop :=
alenL a0 fun t8 =>
alp [.nil, .i 0] L fun v2 w1 k2 =>
aar .lss (aix v2 1) t8 fun t10 =>
acnd t10 (aidxS 4 a0 (aix v2 1) fun t11 =>
aldN 4 t11 w1 fun t12 =>
abx [.i 0, .s ⟨#[]⟩, .i 0, .nil] w1 fun t6 w2 =>
ast 4 t6 t12 w2 fun w3 =>
aldN 4 t6 w3 fun t15 =>
acallF pr false a1 [t15] w3 (apn R) fun t16 w4 =>
abldS 27 4 1 [.i 0, .s ⟨#[]⟩, .i 0, .nil] [(0, 4, t16)] w4 fun t17 w5 =>
aapp 27 4 56 (aix v2 0) t17 w5 fun t18 w6 =>
aar .add (aix v2 1) (.i 1) fun t19 =>
k2 [t18, t19] w6) (R (.ret (aix v2 0)) w1)
theorem A123_eq : A123 = fun a0 a1 L R => aex pr ⟨[(5, [4, 9])], []⟩ (bodyOf fn123) (aenv0 [a0, a1]) L (apost pr fn123.results.toList R) := by kernel_rfl
theorem s123 {a0 a1 : D} {L : List Bx} {R : AE → List Bx → Prop} (h : A123 a0 a1 L R) : ASpec pr 123 [a0, a1] L R :=
  aspec_of (A := ⟨[(5, [4, 9])], []⟩) (fn := fn123) 2 mixed Tryz.func123 (by kernel_rfl) (by decide) rfl (by kernel_rfl) (by rw [A123_eq] at h; exact h)
noncomputable abbrev fn124 : Func := Tryz.f124
def A124 (a0 a1 : D) (L : List Bx) (R : AE → List Bx → Prop) : Prop :=
alenL a0 fun t8 =>
alp [.nil, .i 0] L fun v2 w1 k2 =>
aar .lss (aix v2 1) t8 fun t10 =>
acnd t10 (aidxS 5 a0 (aix v2 1) fun t11 =>
aldN 5 t11 w1 fun t12 =>
abx [.s ⟨#[]⟩, .i 0, .s ⟨#[]⟩, .i 0, .nil] w1 fun t6 w2 =>
ast 5 t6 t12 w2 fun w3 =>
aldN 5 t6 w3 fun t15 =>
acallF pr false a1 [t15] w3 (apn R) fun t16 w4 =>
abldS 68 5 1 [.s ⟨#[]⟩, .i 0, .s ⟨#[]⟩, .i 0, .nil] [(0, 5, t16)] w4 fun t17 w5 =>
aapp 68 5 72 (aix v2 0) t17 w5 fun t18 w6 =>
aar .add (aix v2 1) (.i 1) fun t19 =>
k2 [t18, t19] w6) (R (.ret (aix v2 0)) w1)
theorem A124_eq : A124 = fun a0 a1 L R => aex pr ⟨[(5, [4, 9])], []⟩ (bodyOf fn124) (aenv0 [a0, a1]) L (apost pr fn124.results.toList R) := by kernel_rfl
theorem s124 {a0 a1 : D} {L : List Bx} {R : AE → List Bx → Prop} (h : A124 a0 a1 L R) : ASpec pr 124 [a0, a1] L R :=
  aspec_of (A := ⟨[(5, [4, 9])], []⟩) (fn := fn124) 2 mixed Tryz.func124 (by kernel_rfl) (by decide) rfl (by kernel_rfl) (by rw [A124_eq] at h; exact h)
noncomputable abbrev fn78 : Func := Tryz.f78
def A78 (a0 a1 : D) (L : List Bx) (R : AE → List Bx → Prop) : Prop :=
alenL a0 fun t8 =>
alp [.nil, .i 0] L fun v2 w1 k2 =>
aar .lss (aix v2 1) t8 fun t10 =>
acnd t10 (aidxS 9 a0 (aix v2 1) fun t11 =>
aldN 9 t11 w1 fun t12 =>
abx [.b false, .s ⟨#[]⟩, .s ⟨#[]⟩, .i 0, .s ⟨#[]⟩, .i 0, .nil, .nil, .nil] w1 fun t6 w2 =>
ast 9 t6 t12 w2 fun w3 =>
aldN 9 t6 w3 fun t15 =>
acallF pr false a1 [t15] w3 (apn R) fun t16 w4 =>
abldS 66 9 1 [.b false, .s ⟨#[]⟩, .s ⟨#[]⟩, .i 0, .s ⟨#[]⟩, .i 0, .nil, .nil, .nil] [(0, 9, t16)] w4 fun t17 w5 =>
aapp 66 9 144 (aix v2 0) t17 w5 fun t18 w6 =>
aar .add (aix v2 1) (.i 1) fun t19 =>
k2 [t18, t19] w6) (R (.ret (aix v2 0)) w1)
theorem A78_eq : A78 = fun a0 a1 L R => aex pr ⟨[(5, [4, 9])], []⟩ (bodyOf fn78) (aenv0 [a0, a1]) L (apost pr fn78.results.toList R) := by kernel_rfl
theorem s78 {a0 a1 : D} {L : List Bx} {R : AE → List Bx → Prop} (h : A78 a0 a1 L R) : ASpec pr 78 [a0, a1] L R :=
  aspec_of (A := ⟨[(5, [4, 9])], []⟩) (fn := fn78) 2 mixed Tryz.func78 (by kernel_rfl) (by decide) rfl (by kernel_rfl) (by rw [A78_eq] at h; exact h)
noncomputable abbrev fn125 : Func := Tryz.f125
def A125 (a0 : D) (L : List Bx) (R : AE → List Bx → Prop) : Prop :=
abxv a0 L fun t1 w1 =>
abx [.s ⟨#[]⟩, .i 0, .s ⟨#[]⟩, .i 0, .nil] w1 fun t2 w2 =>
afld 0 t1 fun t3 =>
ald1 t3 w2 fun t4 =>
afld 1 t1 fun t5 =>
aldN 4 t5 w2 fun t6 =>
acallS pr 77 [t6] w2 (fun _ _ => False) fun t7 w3 =>
abld [.s ⟨#[]⟩, .i 0, .s ⟨#[]⟩, .i 0, .nil] [(0, 1, t4), (1, 4, t7)] fun t8 =>
ast 5 t2 t8 w3 fun w4 =>
aldN 5 t2 w4 fun r0 =>
R (.ret r0) w4
theorem A125_eq : A125 = fun a0 L R => aex pr ⟨[], [(1, [(0, 0), (1, 0), (2, 0), (3, 0), (4, 0), (5, 0), (6, 2)])]⟩ (bodyOf fn125) (aenv0 [a0]) L (apost pr fn125.results.toList R) := by kernel_rfl
theorem s125 {a0 : D} {L : List Bx} {R : AE → List Bx → Prop} (h : A125 a0 L R) : ASpec pr 125 [a0] L R :=
  aspec_of (A := ⟨[], [(1, [(0, 0), (1, 0), (2, 0), (3, 0), (4, 0), (5, 0), (6, 2)])]⟩) (fn := fn125) 1 mixed Tryz.func125 (by kernel_rfl) (by decide) rfl (by kernel_rfl) (by rw [A125_eq] at h; exact h)
noncomputable abbrev fn79 : Func := Tryz.f79
def A79 (a0 : D) (L : List Bx) (R : AE → List Bx → Prop) : Prop :=
abxv a0 L fun t1 w1 =>
abx [.b false, .s ⟨#[]⟩, .s ⟨#[]⟩, .i 0, .s ⟨#[]⟩, .i 0, .nil, .nil, .nil] w1 fun t2 w2 =>
afld 3 t1 fun t3 =>
aldN 4 t3 w2 fun t4 =>
acallS pr 77 [t4] w2 (fun _ _ => False) fun t5 w3 =>
afld 7 t1 fun t6 =>
ald1 t6 w3 fun t7 =>
acallS pr 124 [t7, .fn 125 [] []] w3 (fun _ _ => False) fun t8 w4 =>
afld 8 t1 fun t9 =>
ald1 t9 w4 fun t10 =>
acallS pr 126 [t10] w4 (fun _ _ => False) fun t11 w5 =>
afld 3 t1 fun t12 =>
ast 4 t12 t5 w5 fun w6 =>
afld 7 t1 fun t13 =>
ast 1 t13 t8 w6 fun w7 =>
afld 8 t1 fun t14 =>
ast 1 t14 t11 w7 fun w8 =>
aldN 9 t1 w8 fun t15 =>
ast 9 t2 t15 w8 fun w9 =>
aldN 9 t2 w9 fun r0 =>
R (.ret r0) w9
theorem A79_eq : A79 = fun a0 L R => aex pr ⟨[], [(1, [(0, 0), (1, 0), (2, 0), (3, 0), (4, 0), (5, 0), (6, 0), (7, 0), (8, 0), (9, 0), (10, 2), (11, 0), (12, 2), (13, 0), (14, 2)])]⟩ (bodyOf fn79) (aenv0 [a0]) L (apost pr fn79.results.toList R) := by kernel_rfl
theorem s79 {a0 : D} {L : List Bx} {R : AE → List Bx → Prop} (h : A79 a0 L R) : ASpec pr 79 [a0] L R :=
  aspec_of (A := ⟨[], [(1, [(0, 0), (1, 0), (2, 0), (3, 0), (4, 0), (5, 0), (6, 0), (7, 0), (8, 0), (9, 0), (10, 2), (11, 0), (12, 2), (13, 0), (14, 2)])]⟩) (fn := fn79) 1 mixed Tryz.func79 (by kernel_rfl) (by decide) rfl (by kernel_rfl) (by rw [A79_eq] at h; exact h)
noncomputable abbrev fn38 : Func := Tryz.f38
def A38 (a0 : D) (L : List Bx) (R : AE → List Bx → Prop) : Prop :=
abxv a0 L fun t1 w1 =>
abx [.nil, .nil, .nil, .nil, .nil, .nil, .i 0, .s ⟨#[]⟩, .i 0, .nil, .nil] w1 fun t2 w2 =>
afld 6 t1 fun t3 =>
aldN 4 t3 w2 fun t4 =>
acallS pr 77 [t4] w2 (fun _ _ => False) fun t5 w3 =>
afld 5 t1 fun t6 =>
ald1 t6 w3 fun t7 =>
acallS pr 78 [t7, .fn 79 [] []] w3 (fun _ _ => False) fun t8 w4 =>
abld [.nil, .nil, .nil, .nil, .nil, .nil, .i 0, .s ⟨#[]⟩, .i 0, .nil, .nil] [(6, 4, t5), (5, 1, t8)] fun t9 =>
ast 11 t2 t9 w4 fun w5 =>
aldN 11 t2 w5 fun r0 =>
R (.ret r0) w5
theorem A38_eq : A38 = fun a0 L R => aex pr ⟨[], [(1, [(0, 0), (1, 0), (2, 0), (3, 0), (4, 0), (5, 0), (6, 0), (7, 2)])]⟩ (bodyOf fn38) (aenv0 [a0]) L (apost pr fn38.results.toList R) := by kernel_rfl
theorem s38 {a0 : D} {L : List Bx} {R : AE → List Bx → Prop} (h : A38 a0 L R) : ASpec pr 38 [a0] L R :=
  aspec_of (A := ⟨[], [(1, [(0, 0), (1, 0), (2, 0), (3, 0), (4, 0), (5, 0), (6, 0), (7, 2)])]⟩) (fn := fn38) 1 mixed Tryz.func38 (by kernel_rfl) (by decide) rfl (by kernel_rfl) (by rw [A38_eq] at h; exact h)
noncomputable abbrev fn39 : Func := Tryz.f39
def A39 (a0 a1 a2 : D) (L : List Bx) (R : AE → List Bx → Prop) : Prop :=
abxv a2 L fun t5 w1 =>
alenL a1 fun t9 =>
alp [.i 0] w1 fun v2 w2 k2 =>
aar .lss (aix v2 0) t9 fun t11 =>
acnd t11 (aidxS 1 a1 (aix v2 0) fun t12 =>
ald1 t12 w2 fun t13 =>
anilc a0 fun t16 =>
afld 11 t16 fun t17 =>
aldN 2 t17 w2 fun t18 =>
aldN 4 t5 w2 fun t20 =>
acallS pr 34 [t18, t13, t20] w2 (fun _ _ => False) fun t21 w3 =>
anilc a0 fun t22 =>
afld 11 t22 fun t23 =>
ast 2 t23 t21 w3 fun w4 =>
aar .add (aix v2 0) (.i 1) fun t24 =>
k2 [t24] w4) (R (.ret (.tuple [])) w2)
theorem A39_eq : A39 = fun a0 a1 a2 L R => aex pr ⟨[(5, [10])], [(4, [(0, 0), (1, 0), (2, 0), (3, 0), (4, 0), (5, 0), (6, 0), (7, 0), (8, 0), (9, 0), (10, 2)])]⟩ (bodyOf fn39) (aenv0 [a0, a1, a2]) L (apost pr fn39.results.toList R) := by kernel_rfl
theorem s39 {a0 a1 a2 : D} {L : List Bx} {R : AE → List Bx → Prop} (h : A39 a0 a1 a2 L R) : ASpec pr 39 [a0, a1, a2] L R :=
  aspec_of (A := ⟨[(5, [10])], [(4, [(0, 0), (1, 0), (2, 0), (3, 0), (4, 0), (5, 0), (6, 0), (7, 0), (8, 0), (9, 0), (10, 2)])]⟩) (fn := fn39) 3 mixed Tryz.func39 (by kernel_rfl) (by decide) rfl (by kernel_rfl) (by rw [A39_eq] at h; exact h)
noncomputable abbrev fn13 : Func := Tryz.f13
def A13 (a0 a1 : D) (L : List Bx) (R : AE → List Bx → Prop) : Prop :=
abxv a0 L fun t2 w1 =>
aldN 11 t2 w1 fun t13 =>
acallW pr 26 [t13] w1 (apn R) fun t14 w2 =>
aar .neq t14 (.i 0) fun t16 =>
acnd t16 (R (.ret (.tuple [.val (.pointer none), t14])) w2) (ajn (fun v6 w3 =>
aldN 11 t2 w3 fun t24 =>
acallW pr 38 [t24] w3 (apn R) fun t25 w4 =>
abld [.i 0, .nil] [(0, 1, a1)] fun t27 =>
abld [.nil, .nil, .nil, .nil, .nil, .nil, .i 0, .s ⟨#[]⟩, .i 0, .nil, .nil, .i 0, .nil, .nil] [(0, 11, t25), (11, 2, t27)] fun t28 =>
abxv t28 w4 fun t29 w5 =>
afld 0 t2 fun t31 =>
ald1 t31 w5 fun t32 =>
abld [.i 0, .i 0, .b false, .nil] [(0, 1, .i 1)] fun t33 =>
acallW pr 39 [t29, t32, t33] w5 (apn R) fun t34 w6 =>
afld 1 t2 fun t36 =>
ald1 t36 w6 fun t37 =>
abld [.i 0, .i 0, .b false, .nil] [(0, 1, .i 4)] fun t38 =>
acallW pr 39 [t29, t37, t38] w6 (apn R) fun t39 w7 =>
amkS 4 1 1 [.b false] a1 a1 w7 fun t41 w8 =>
abld [.i 0, .i 0, .b false, .nil] [(0, 1, .i 2), (3, 1, t41)] fun t42 =>
abx [.i 0, .i 0, .b false, .nil] w8 fun t8 w9 =>
ast 4 t8 t42 w9 fun w10 =>
afld 2 t2 fun t44 =>
ald1 t44 w10 fun t45 =>
aldN 4 t8 w10 fun t46 =>
acallW pr 39 [t29, t45, t46] w10 (apn R) fun t47 w11 =>
afld 3 t2 fun t49 =>
ald1 t49 w11 fun t50 =>
aldN 4 t8 w11 fun t51 =>
acallW pr 39 [t29, t50, t51] w11 (apn R) fun t52 w12 =>
afld 4 t2 fun t53 =>
ald1 t53 w12 fun t54 =>
alenL t54 fun t55 =>
alp [.i 0] w12 fun v13 w13 k13 =>
aar .lss (aix v13 0) t55 fun t57 =>
acnd t57 (aidxS 5 t54 (aix v13 0) fun t58 =>
aldN 5 t58 w13 fun t59 =>
abx [.s ⟨#[]⟩, .i 0, .s ⟨#[]⟩, .i 0, .nil] w13 fun t10 w14 =>
ast 5 t10 t59 w14 fun w15 =>
afld 1 t10 fun t61 =>
aldN 4 t61 w15 fun t62 =>
abld [.i 0, .nil] [(0, 1, a1)] fun t64 =>
acallW pr 31 [t62, t64] w15 (apn R) fun t65 w16 =>
aext 0 t65 fun t66 =>
aext 1 t65 fun t67 =>
abx [.i 0, .i 0, .b false, .nil] w16 fun t11 w17 =>
ast 4 t11 t66 w17 fun w18 =>
aar .neq t67 (.i 0) fun t69 =>
acnd t69 (R (.ret (.tuple [.val (.pointer none), t67])) w18) (anilc t29 fun t73 =>
afld 11 t73 fun t74 =>
aldN 2 t74 w18 fun t75 =>
afld 0 t10 fun t76 =>
ald1 t76 w18 fun t77 =>
aldN 4 t11 w18 fun t78 =>
acallS pr 34 [t75, t77, t78] w18 (fun _ _ => False) fun t79 w19 =>
anilc t29 fun t80 =>
afld 11 t80 fun t81 =>
ast 2 t81 t79 w19 fun w20 =>
aar .add (aix v13 0) (.i 1) fun t82 =>
k13 [t82] w20)) (R (.ret (.tuple [t29, .i 0])) w13)) fun j6 =>
aar .lss a1 (.i 1) fun t19 =>
acnd t19 (R (.ret (.tuple [.val (.pointer none), .i 1])) w2) (aar .gtr a1 (.i 64) fun t22 =>
acnd t22 (R (.ret (.tuple [.val (.pointer none), .i 1])) w2) (j6 [] w2)))
theorem A13_eq : A13 = fun a0 a1 L R => aex pr ⟨[(12, []), (27, [56])], [(18, [(0, 0), (1, 0), (2, 0), (3, 0), (4, 0), (5, 0), (6, 0), (7, 0), (8, 0), (9, 0), (10, 0), (11, 2)])]⟩ (bodyOf fn13) (aenv0 [a0, a1]) L (apost pr fn13.results.toList R) := by kernel_rfl
theorem s13 {a0 a1 : D} {L : List Bx} {R : AE → List Bx → Prop} (h : A13 a0 a1 L R) : ASpec pr 13 [a0, a1] L R :=
  aspec_of (A := ⟨[(12, []), (27, [56])], [(18, [(0, 0), (1, 0), (2, 0), (3, 0), (4, 0), (5, 0), (6, 0), (7, 0), (8, 0), (9, 0), (10, 0), (11, 2)])]⟩) (fn := fn13) 2 mixed Tryz.func13 (by kernel_rfl) (by decide) rfl (by kernel_rfl) (by rw [A13_eq] at h; exact h)
noncomputable abbrev fn20 : Func := Tryz.f20
def A20 (a0 : D) (L : List Bx) (R : AE → List Bx → Prop) : Prop :=
abx [.i 0, .nil] L fun t2 w1 =>
anilc a0 fun t7 =>
afld 11 t7 fun t8 =>
aldN 2 t8 w1 fun t9 =>
abx [.i 0, .nil] w1 fun t3 w2 =>
ast 2 t3 t9 w2 fun w3 =>
afld 1 t3 fun t10 =>
ast 1 t10 (.nil) w3 fun w4 =>
anilc a0 fun t12 =>
afld 11 t12 fun t13 =>
afld 1 t13 fun t14 =>
ald1 t14 w4 fun t15 =>
alenL t15 fun t16 =>
alp [.i 0] w4 fun v4 w5 k4 =>
aar .lss (aix v4 0) t16 fun t18 =>
acnd t18 (aidxS 5 t15 (aix v4 0) fun t19 =>
aldN 5 t19 w5 fun t20 =>
abx [.s ⟨#[]⟩, .i 0, .i 0, .b false, .nil] w5 fun t5 w6 =>
ast 5 t5 t20 w6 fun w7 =>
afld 1 t5 fun t21 =>
afld 3 t21 fun t22 =>
ald1 t22 w7 fun t23 =>
acallW pr 49 [t23] w7 (apn R) fun t24 w8 =>
afld 1 t5 fun t25 =>
afld 3 t25 fun t26 =>
ast 1 t26 t24 w8 fun w9 =>
afld 1 t3 fun t27 =>
ald1 t27 w9 fun t28 =>
aldN 5 t5 w9 fun t29 =>
abldS 70 5 1 [.s ⟨#[]⟩, .i 0, .i 0, .b false, .nil] [(0, 5, t29)] w9 fun t30 w10 =>
aapp 70 5 64 t28 t30 w10 fun t31 w11 =>
afld 1 t3 fun t32 =>
ast 1 t32 t31 w11 fun w12 =>
aar .add (aix v4 0) (.i 1) fun t33 =>
k4 [t33] w12) (aldN 2 t3 w5 fun t34 =>
ast 2 t2 t34 w5 fun w13 =>
aldN 2 t2 w13 fun r0 =>
R (.ret r0) w13)
theorem A20_eq : A20 = fun a0 L R => aex pr ⟨[(9, [17])], []⟩ (bodyOf fn20) (aenv0 [a0]) L (apost pr fn20.results.toList R) := by kernel_rfl
theorem s20 {a0 : D} {L : List Bx} {R : AE → List Bx → Prop} (h : A20 a0 L R) : ASpec pr 20 [a0] L R :=
  aspec_of (A := ⟨[(9, [17])], []⟩) (fn := fn20) 1 mixed Tryz.func20 (by kernel_rfl) (by decide) rfl (by kernel_rfl) (by rw [A20_eq] at h; exact h)
noncomputable abbrev fn50 : Func := Tryz.f50
def A50 (a0 : D) (L : List Bx) (R : AE → List Bx → Prop) : Prop :=
aeqS false .eql a0 (.nil) fun t4 =>
acnd t4 (R (.ret (.nil)) L) (abldS 64 2 0 [] [] L fun t5 w1 =>
aapp 64 2 24 t5 a0 w1 fun t7 w2 =>
R (.ret t7) w2)
theorem A50_eq : A50 = fun a0 L R => aex pr ⟨[], []⟩ (bodyOf fn50) (aenv0 [a0]) L (apost pr fn50.results.toList R) := by kernel_rfl
theorem s50 {a0 : D} {L : List Bx} {R : AE → List Bx → Prop} (h : A50 a0 L R) : ASpec pr 50 [a0] L R :=
  aspec_of (A := ⟨[], []⟩) (fn := fn50) 1 mixed Tryz.func50 (by kernel_rfl) (by decide) rfl (by kernel_rfl) (by rw [A50_eq] at h; exact h)
noncomputable abbrev fn22 : Func := Tryz.f22
def A22 (a0 : D) (L : List Bx) (R : AE → List Bx → Prop) : Prop :=
anilc a0 fun t4 =>
afld 13 t4 fun t5 =>
ald1 t5 L fun t6 =>
acallW pr 50 [t6] L (apn R) fun t7 w1 =>
R (.ret t7) w1
theorem A22_eq : A22 = fun a0 L R => aex pr ⟨[], []⟩ (bodyOf fn22) (aenv0 [a0]) L (apost pr fn22.results.toList R) := by kernel_rfl
theorem s22 {a0 : D} {L : List Bx} {R : AE → List Bx → Prop} (h : A22 a0 L R) : ASpec pr 22 [a0] L R :=
  aspec_of (A := ⟨[], []⟩) (fn := fn22) 1 mixed Tryz.func22 (by kernel_rfl) (by decide) rfl (by kernel_rfl) (by rw [A22_eq] at h; exact h)
noncomputable abbrev fn61 : Func := Tryz.f61
def A61 (a0 a1 : D) (L : List Bx) (R : AE → List Bx → Prop) : Prop :=
aar .geq a1 (.i 0) fun t6 =>
acnd t6 (anilc a0 fun t10 =>
afld 13 t10 fun t11 =>
ald1 t11 L fun t12 =>
alenL t12 fun t13 =>
aar .lss a1 t13 fun t14 =>
R (.ret t14) L) (R (.ret (.b false)) L)
theorem A61_eq : A61 = fun a0 a1 L R => aex pr ⟨[], []⟩ (bodyOf fn61) (aenv0 [a0, a1]) L (apost pr fn61.results.toList R) := by kernel_rfl
theorem s61 {a0 a1 : D} {L : List Bx} {R : AE → List Bx → Prop} (h : A61 a0 a1 L R) : ASpec pr 61 [a0, a1] L R :=
  aspec_of (A := ⟨[], []⟩) (fn := fn61) 2 mixed Tryz.func61 (by kernel_rfl) (by decide) rfl (by kernel_rfl) (by rw [A61_eq] at h; exact h)
noncomputable abbrev fn28 : Func := Tryz.f28
def A28 (a0 a1 : D) (L : List Bx) (R : AE → List Bx → Prop) : Prop :=
ajn (fun v3 w1 =>
anilc a0 fun t19 =>
afld 13 t19 fun t20 =>
ald1 t20 w1 fun t21 =>
anilc a0 fun t23 =>
afld 13 t23 fun t24 =>
ald1 t24 w1 fun t25 =>
aidxS 2 t25 a1 fun t27 =>
aldN 2 t27 w1 fun t28 =>
abldF 2 1 [.s ⟨#[]⟩, .i 0] [(0, 2, t28)] fun t29 =>
aapp 64 2 24 t21 t29 w1 fun t30 w2 =>
anilc a0 fun t31 =>
afld 13 t31 fun t32 =>
ast 1 t32 t30 w2 fun w3 =>
R (.ret (.b true)) w3) fun j3 =>
acallW pr 61 [a0, a1] L (apn R) fun t7 w4 =>
anotb t7 fun t8 =>
acnd t8 (R (.ret (.b false)) w4) (anilc a0 fun t11 =>
afld 13 t11 fun t12 =>
ald1 t12 w4 fun t13 =>
alenL t13 fun t14 =>
aar .geq t14 (.i 256) fun t15 =>
acnd t15 (R (.ret (.b false)) w4) (j3 [] w4))
theorem A28_eq : A28 = fun a0 a1 L R => aex pr ⟨[(6, [])], [(3, [(0, 0), (1, 0), (2, 0), (3, 0), (4, 0), (5, 0), (6, 0), (7, 0), (8, 0), (9, 0), (10, 0), (11, 0), (12, 0), (13, 2), (14, 0), (15, 0), (16, 2)])]⟩ (bodyOf fn28) (aenv0 [a0, a1]) L (apost pr fn28.results.toList R) := by kernel_rfl
theorem s28 {a0 a1 : D} {L : List Bx} {R : AE → List Bx → Prop} (h : A28 a0 a1 L R) : ASpec pr 28 [a0, a1] L R :=
  aspec_of (A := ⟨[(6, [])], [(3, [(0, 0), (1, 0), (2, 0), (3, 0), (4, 0), (5, 0), (6, 0), (7, 0), (8, 0), (9, 0), (10, 0), (11, 0), (12, 0), (13, 2), (14, 0), (15, 0), (16, 2)])]⟩) (fn := fn28) 2 mixed Tryz.func28 (by kernel_rfl) (by decide) rfl (by kernel_rfl) (by rw [A28_eq] at h; exact h)
noncomputable abbrev fn62 : Func := Tryz.f62
def A62 (a0 a1 a2 : D) (L : List Bx) (R : AE → List Bx → Prop) : Prop :=
alenL a0 fun t12 =>
aslcM 2 a0 (some a1) (some a2) (some t12) fun t13 =>
aar .eql a1 a2 fun t16 =>
acnd t16 (R (.ret a0) L) (alenL a0 fun t19 =>
aslcL 2 a0 none (some a1) fun t22 =>
aslcL 2 a0 (some a2) none fun t25 =>
aapp 64 2 24 t22 t25 L fun t26 w1 =>
alenL t26 fun t29 =>
aslcL 2 t26 (some t29) (some t19) fun t31 =>
aclr [.string ⟨#[]⟩, .int .i64 0] 2 t31 w1 fun w2 =>
R (.ret t26) w2)
theorem A62_eq : A62 = fun a0 a1 a2 L R => aex pr ⟨[], [(5, [(0, 0), (1, 0), (2, 0), (3, 0), (4, 0), (5, 0), (6, 2), (7, 2)])]⟩ (bodyOf fn62) (aenv0 [a0, a1, a2]) L (apost pr fn62.results.toList R) := by kernel_rfl
theorem s62 {a0 a1 a2 : D} {L : List Bx} {R : AE → List Bx → Prop} (h : A62 a0 a1 a2 L R) : ASpec pr 62 [a0, a1, a2] L R :=
  aspec_of (A := ⟨[], [(5, [(0, 0), (1, 0), (2, 0), (3, 0), (4, 0), (5, 0), (6, 2), (7, 2)])]⟩) (fn := fn62) 3 mixed Tryz.func62 (by kernel_rfl) (by decide) rfl (by kernel_rfl) (by rw [A62_eq] at h; exact h)
noncomputable abbrev fn75 : Func := Tryz.f75
def A75 (a0 a1 a2 : D) (L : List Bx) (R : AE → List Bx → Prop) : Prop :=
abxv a1 L fun t4 w1 =>
abx [.i 0, .nil] w1 fun t6 w2 =>
anilc a0 fun t12 =>
afld 11 t12 fun t13 =>
aldN 2 t13 w2 fun t14 =>
afld 2 t4 fun t15 =>
ald1 t15 w2 fun t16 =>
abld [.i 0, .i 0, .b false, .nil] [(0, 1, .i 3), (1, 1, a2)] fun t18 =>
acallS pr 34 [t14, t16, t18] w2 (fun _ _ => False) fun t19 w3 =>
abx [.i 0, .nil] w3 fun t8 w4 =>
ast 2 t8 t19 w4 fun w5 =>
afld 3 t4 fun t21 =>
aldN 4 t21 w5 fun t22 =>
aldN 2 t8 w5 fun t23 =>
acallW pr 31 [t22, t23] w5 (apn R) fun t24 w6 =>
aext 0 t24 fun t25 =>
aext 1 t24 fun t26 =>
abx [.i 0, .i 0, .b false, .nil] w6 fun t9 w7 =>
ast 4 t9 t25 w7 fun w8 =>
aldN 2 t8 w8 fun t27 =>
aar .eql t26 (.i 0) fun t29 =>
acnd t29 (afld 2 t9 fun t31 =>
∃ x5, x5 ∈ w8 ∧ x5.k = .box ∧
ald1 t31 ([x5]) fun t32 =>
∃ (m7 : Nat) (x7 y7 : Bx) (d7 : D), w8[m7]? = some x7 ∧ y7.b = x7.b ∧
((List.map Bx.b w8).Nodup → x7.b ∉ [x5.b]) ∧
(ast 2 t6 t27 ([x7]) fun w9 =>
D.val undef = d7 ∧ w9 = [y7]) ∧
aldN 2 t6 ((w8.set m7 y7)) fun r0 =>
R (.ret (.tuple [r0, t32])) ((w8.set m7 y7))) (∃ (m7 : Nat) (x7 y7 : Bx) (d7 : D), w8[m7]? = some x7 ∧ y7.b = x7.b ∧
(ast 2 t6 t27 ([x7]) fun w10 =>
D.val undef = d7 ∧ w10 = [y7]) ∧
aldN 2 t6 ((w8.set m7 y7)) fun r0 =>
R (.ret (.tuple [r0, .b false])) ((w8.set m7 y7)))
theorem A75_eq : A75 = fun a0 a1 a2 L R => aex pr ⟨[], [(1, [(0, 0), (1, 0), (2, 0), (3, 0), (4, 0), (5, 0), (6, 0), (7, 0), (8, 0), (9, 3), (10, 2)]), (3, [(0, 0), (1, 0), (2, 0), (3, 0), (4, 0), (5, 5), (6, 0), (7, 7), (8, 2)])]⟩ (bodyOf fn75) (aenv0 [a0, a1, a2]) L (apost pr fn75.results.toList R) := by kernel_rfl
theorem s75 {a0 a1 a2 : D} {L : List Bx} {R : AE → List Bx → Prop} (h : A75 a0 a1 a2 L R) : ASpec pr 75 [a0, a1, a2] L R :=
  aspec_of (A := ⟨[], [(1, [(0, 0), (1, 0), (2, 0), (3, 0), (4, 0), (5, 0), (6, 0), (7, 0), (8, 0), (9, 3), (10, 2)]), (3, [(0, 0), (1, 0), (2, 0), (3, 0), (4, 0), (5, 5), (6, 0), (7, 7), (8, 2)])]⟩) (fn := fn75) 3 mixed Tryz.func75 (by kernel_rfl) (by decide) rfl (by kernel_rfl) (by rw [A75_eq] at h; exact h)
noncomputable abbrev fn76 : Func := Tryz.f76
def A76 (a0 a1 a2 a3 a4 : D) (L : List Bx) (R : AE → List Bx → Prop) : Prop :=
abxv a1 L fun t6 w1 =>
abxv a3 w1 fun t8 w2 =>
anilc a0 fun t21 =>
afld 11 t21 fun t22 =>
aldN 2 t22 w2 fun t23 =>
abx [.i 0, .nil] w2 fun t11 w3 =>
ast 2 t11 t23 w3 fun w4 =>
afld 7 t6 fun t24 =>
ald1 t24 w4 fun t25 =>
alenL t25 fun t26 =>
alp [.i 0] w4 fun v3 w5 k3 =>
aar .lss (aix v3 0) t26 fun t28 =>
acnd t28 (aidxS 5 t25 (aix v3 0) fun t29 =>
aldN 5 t29 w5 fun t30 =>
abx [.s ⟨#[]⟩, .i 0, .s ⟨#[]⟩, .i 0, .nil] w5 fun t13 w6 =>
ast 5 t13 t30 w6 fun w7 =>
afld 1 t13 fun t32 =>
aldN 4 t32 w7 fun t33 =>
aldN 2 t8 w7 fun t34 =>
acallW pr 31 [t33, t34] w7 (apn R) fun t35 w8 =>
aext 0 t35 fun t36 =>
aext 1 t35 fun t37 =>
abx [.i 0, .i 0, .b false, .nil] w8 fun t14 w9 =>
ast 4 t14 t36 w9 fun w10 =>
aar .neq t37 (.i 0) fun t39 =>
acnd t39 (R (.ret (.b false)) w10) (aldN 2 t11 w10 fun t40 =>
afld 0 t13 fun t41 =>
ald1 t41 w10 fun t42 =>
aldN 4 t14 w10 fun t43 =>
acallW pr 34 [t40, t42, t43] w10 (apn R) fun t44 w11 =>
ast 2 t11 t44 w11 fun w12 =>
aar .add (aix v3 0) (.i 1) fun t45 =>
k3 [t45] w12)) (alenL a4 fun t47 =>
afld 8 t6 fun t48 =>
ald1 t48 w5 fun t49 =>
alenL t49 fun t50 =>
aar .add t47 t50 fun t51 =>
aar .gtr t51 (.i 256) fun t52 =>
acnd t52 (R (.ret (.b false)) w5) (afld 8 t6 fun t53 =>
ald1 t53 w5 fun t54 =>
alenL t54 fun t55 =>
alp [a4, .i 0] w5 fun v13 w13 k13 =>
aar .lss (aix v13 1) t55 fun t57 =>
acnd t57 (aidxS 1 t54 (aix v13 1) fun t58 =>
ald1 t58 w13 fun t59 =>
abld [.s ⟨#[]⟩, .i 0] [(0, 1, t59), (1, 1, a2)] fun t63 =>
abldS 64 2 1 [.s ⟨#[]⟩, .i 0] [(0, 2, t63)] w13 fun t64 w14 =>
aapp 64 2 24 (aix v13 0) t64 w14 fun t65 w15 =>
aldN 2 t11 w15 fun t67 =>
acallW pr 24 [t67, t59, .i 2] w15 (apn R) fun t69 w16 =>
aext 0 t69 fun t70 =>
aext 1 t69 fun t71 =>
abx [.i 0, .i 0, .b false, .nil] w16 fun t18 w17 =>
ast 4 t18 t70 w17 fun w18 =>
afld 3 t18 fun t72 =>
ald1 t72 w18 fun t73 =>
aidxS 1 t73 a2 fun t75 =>
ast 1 t75 (.b true) w18 fun w19 =>
aldN 2 t11 w19 fun t76 =>
aldN 4 t18 w19 fun t78 =>
acallW pr 34 [t76, t59, t78] w19 (apn R) fun t79 w20 =>
ast 2 t11 t79 w20 fun w21 =>
aar .add (aix v13 1) (.i 1) fun t80 =>
k13 [t65, t80] w21) (aldN 2 t11 w13 fun t83 =>
anilc a0 fun t85 =>
afld 11 t85 fun t86 =>
ast 2 t86 t83 w13 fun w22 =>
anilc a0 fun t87 =>
afld 13 t87 fun t88 =>
ast 1 t88 (aix v13 0) w22 fun w23 =>
R (.ret (.b true)) w23)))
theorem A76_eq : A76 = fun a0 a1 a2 a3 a4 L R => aex pr ⟨[(7, [27]), (27, [4, 56])], []⟩ (bodyOf fn76) (aenv0 [a0, a1, a2, a3, a4]) L (apost pr fn76.results.toList R) := by kernel_rfl
theorem s76 {a0 a1 a2 a3 a4 : D} {L : List Bx} {R : AE → List Bx → Prop} (h : A76 a0 a1 a2 a3 a4 L R) : ASpec pr 76 [a0, a1, a2, a3, a4] L R :=
  aspec_of (A := ⟨[(7, [27]), (27, [4, 56])], []⟩) (fn := fn76) 5 mixed Tryz.func76 (by kernel_rfl) (by decide) rfl (by kernel_rfl) (by rw [A76_eq] at h; exact h)
noncomputable abbrev fn37 : Func := Tryz.f37
def A37 (a0 a1 : D) (L : List Bx) (R : AE → List Bx → Prop) : Prop :=
acallW pr 61 [a0, a1] L (apn R) fun t13 w1 =>
anotb t13 fun t14 =>
acnd t14 (R (.ret (.b false)) w1) (anilc a0 fun t16 =>
afld 13 t16 fun t17 =>
ald1 t17 w1 fun t18 =>
aidxS 2 t18 a1 fun t20 =>
aldN 2 t20 w1 fun t21 =>
abx [.s ⟨#[]⟩, .i 0] w1 fun t5 w2 =>
ast 2 t5 t21 w2 fun w3 =>
anilc a0 fun t23 =>
afld 13 t23 fun t24 =>
ald1 t24 w3 fun t25 =>
acallW pr 50 [t25] w3 (apn R) fun t26 w4 =>
aar .add a1 (.i 1) fun t29 =>
acallW pr 62 [t26, a1, t29] w4 (apn R) fun t30 w5 =>
anilc a0 fun t32 =>
afld 0 t32 fun t33 =>
afld 5 t33 fun t34 =>
ald1 t34 w5 fun t35 =>
alenL t35 fun t36 =>
alp [.i 0] w5 fun v6 w6 k6 =>
aar .lss (aix v6 0) t36 fun t38 =>
acnd t38 (aidxS 9 t35 (aix v6 0) fun t39 =>
aldN 9 t39 w6 fun t40 =>
abx [.b false, .s ⟨#[]⟩, .s ⟨#[]⟩, .i 0, .s ⟨#[]⟩, .i 0, .nil, .nil, .nil] w6 fun t8 w7 =>
ast 9 t8 t40 w7 fun w8 =>
ajn (fun v9 w9 =>
aldN 9 t8 w9 fun t52 =>
afld 1 t5 fun t53 =>
ald1 t53 w9 fun t54 =>
acallW pr 75 [a0, t52, t54] w9 (apn R) fun t55 w10 =>
aext 0 t55 fun t56 =>
aext 1 t55 fun t57 =>
abx [.i 0, .nil] w10 fun t9 w11 =>
ast 2 t9 t56 w11 fun w12 =>
acnd t57 (aldN 9 t8 w12 fun t60 =>
afld 1 t5 fun t61 =>
ald1 t61 w12 fun t62 =>
aldN 2 t9 w12 fun t63 =>
acallW pr 76 [a0, t60, t62, t63, t30] w12 (apn R) fun t65 w13 =>
R (.ret t65) w13) (aar .add (aix v6 0) (.i 1) fun t66 =>
k6 [t66] w12)) fun j9 =>
afld 0 t8 fun t41 =>
ald1 t41 w8 fun t42 =>
acnd t42 (aar .add (aix v6 0) (.i 1) fun t66 =>
k6 [t66] w8) (afld 1 t8 fun t44 =>
ald1 t44 w8 fun t45 =>
afld 0 t5 fun t46 =>
ald1 t46 w8 fun t47 =>
aar .neq t45 t47 fun t48 =>
acnd t48 (aar .add (aix v6 0) (.i 1) fun t66 =>
k6 [t66] w8) (j9 [] w8))) (anilc a0 fun t69 =>
afld 13 t69 fun t70 =>
ast 1 t70 t30 w6 fun w14 =>
R (.ret (.b true)) w14))
theorem A37_eq : A37 = fun a0 a1 L R => aex pr ⟨[(13, [37]), (18, [])], []⟩ (bodyOf fn37) (aenv0 [a0, a1]) L (apost pr fn37.results.toList R) := by kernel_rfl
theorem s37 {a0 a1 : D} {L : List Bx} {R : AE → List Bx → Prop} (h : A37 a0 a1 L R) : ASpec pr 37 [a0, a1] L R :=
  aspec_of (A := ⟨[(13, [37]), (18, [])], []⟩) (fn := fn37) 2 mixed Tryz.func37 (by kernel_rfl) (by decide) rfl (by kernel_rfl) (by rw [A37_eq] at h; exact h)
noncomputable abbrev fn36 : Func := Tryz.f36
def A36 (a0 a1 a2 : D) (L : List Bx) (R : AE → List Bx → Prop) : Prop :=
ajn (fun v3 w1 =>
anilc a0 fun t48 =>
afld 0 t48 fun t49 =>
afld 5 t49 fun t50 =>
ald1 t50 w1 fun t51 =>
aidxS 9 t51 a1 fun t53 =>
aldN 9 t53 w1 fun t54 =>
abx [.b false, .s ⟨#[]⟩, .s ⟨#[]⟩, .i 0, .s ⟨#[]⟩, .i 0, .nil, .nil, .nil] w1 fun t7 w2 =>
ast 9 t7 t54 w2 fun w3 =>
aldN 9 t7 w3 fun t57 =>
acallW pr 75 [a0, t57, a2] w3 (apn R) fun t59 w4 =>
aext 0 t59 fun t60 =>
aext 1 t59 fun t61 =>
abx [.i 0, .nil] w4 fun t8 w5 =>
ast 2 t8 t60 w5 fun w6 =>
acnd t61 (∃ x, x ∈ w6 ∧ x.k = .box ∧
aldN 9 t7 ([x]) fun t65 =>
∃ x, x ∈ w6 ∧ x.k = .box ∧
aldN 2 t8 ([x]) fun t67 =>
anilc a0 fun t69 =>
afld 13 t69 fun t70 =>
ald1 t70 w6 fun t71 =>
acallW pr 50 [t71] w6 (apn R) fun t72 w7 =>
(∀ x ∈ w6, x.k = .box → x ∈ w7) ∧
acallW pr 76 [a0, t65, a2, t67, t72] w7 (apn R) fun t73 w8 =>
R (.ret t73) w8) (R (.ret (.b false)) w6)) fun j3 =>
aar .lss a1 (.i 0) fun t11 =>
acnd t11 (R (.ret (.b false)) L) (anilc a0 fun t15 =>
afld 0 t15 fun t16 =>
afld 5 t16 fun t17 =>
ald1 t17 L fun t18 =>
alenL t18 fun t19 =>
aar .geq a1 t19 fun t20 =>
acnd t20 (R (.ret (.b false)) L) (anilc a0 fun t24 =>
afld 0 t24 fun t25 =>
afld 5 t25 fun t26 =>
ald1 t26 L fun t27 =>
aidxS 9 t27 a1 fun t29 =>
afld 0 t29 fun t30 =>
ald1 t30 L fun t31 =>
anotb t31 fun t32 =>
acnd t32 (R (.ret (.b false)) L) (aar .lss a2 (.i 0) fun t36 =>
acnd t36 (R (.ret (.b false)) L) (anilc a0 fun t41 =>
afld 11 t41 fun t42 =>
afld 0 t42 fun t43 =>
ald1 t43 L fun t44 =>
aar .geq a2 t44 fun t45 =>
acnd t45 (R (.ret (.b false)) L) (j3 [] L)))))
theorem A36_eq : A36 = fun a0 a1 a2 L R => aex pr ⟨[(6, [])], [(5, [(0, 0), (1, 0), (2, 0), (3, 5), (4, 0), (5, 5), (6, 0), (7, 0), (8, 0), (9, 0), (10, 4), (11, 2), (12, 0), (13, 2)])]⟩ (bodyOf fn36) (aenv0 [a0, a1, a2]) L (apost pr fn36.results.toList R) := by kernel_rfl
theorem s36 {a0 a1 a2 : D} {L : List Bx} {R : AE → List Bx → Prop} (h : A36 a0 a1 a2 L R) : ASpec pr 36 [a0, a1, a2] L R :=
  aspec_of (A := ⟨[(6, [])], [(5, [(0, 0), (1, 0), (2, 0), (3, 5), (4, 0), (5, 5), (6, 0), (7, 0), (8, 0), (9, 0), (10, 4), (11, 2), (12, 0), (13, 2)])]⟩) (fn := fn36) 3 mixed Tryz.func36 (by kernel_rfl) (by decide) rfl (by kernel_rfl) (by rw [A36_eq] at h; exact h)
end Go.Proofs.YtdalobojhfafbaaGreatDoor
