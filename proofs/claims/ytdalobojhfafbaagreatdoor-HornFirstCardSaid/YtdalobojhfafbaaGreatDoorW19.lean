/- What must hold ahead of a call, function by function: printed by a program. -/
import Derived.Test.YtdalobojhfafbaaGreatDoorW14
import Derived.KernelRfl
set_option maxRecDepth 100000
set_option linter.unusedVariables false
namespace Go.Proofs.YtdalobojhfafbaaGreatDoor
open Go Go.V
noncomputable abbrev fn126 : Func := Tryz.f126
/- slices.Clone[[]string,string] -/
def A126 (a0 : D) (L : List Bx) (R : AE → List Bx → Prop) : Prop :=
aeqS false .eql a0 (.nil) fun t4 =>
acnd t4 (R (.ret (.nil)) L) (abldS 9 1 0 [] [] L fun t5 w1 =>
aapp 9 1 16 t5 a0 w1 fun t7 w2 =>
R (.ret t7) w2)
theorem A126_eq : A126 = fun a0 L R => aex pr ⟨[], []⟩ (bodyOf fn126) (aenv0 [a0]) L (apost pr fn126.results.toList R) := by kernel_rfl
theorem s126 {a0 : D} {L : List Bx} {R : AE → List Bx → Prop} (h : A126 a0 L R) : ASpec pr 126 [a0] L R :=
  aspec_of (A := ⟨[], []⟩) (fn := fn126) 1 mixed Tryz.func126 (by kernel_rfl) (by decide) rfl (by kernel_rfl) (by rw [A126_eq] at h; exact h)
noncomputable abbrev fn77 : Func := Tryz.f77
/- ashlar/sim.term -/
def A77 (a0 : D) (L : List Bx) (R : AE → List Bx → Prop) : Prop :=
abxv a0 L fun t1 w1 =>
abx [.i 0, .s ⟨#[]⟩, .i 0, .nil] w1 fun t2 w2 =>
afld 3 t1 fun t3 =>
ald1 t3 w2 fun t4 =>
acallW pr 123 [t4, .fn 77 [] []] w2 (apn R) fun t5 w3 =>
afld 3 t1 fun t6 =>
ast 1 t6 t5 w3 fun w4 =>
aldN 4 t1 w4 fun t7 =>
ast 4 t2 t7 w4 fun w5 =>
aldN 4 t2 w5 fun r0 =>
R (.ret r0) w5
theorem A77_eq : A77 = fun a0 L R => aex pr ⟨[], []⟩ (bodyOf fn77) (aenv0 [a0]) L (apost pr fn77.results.toList R) := by kernel_rfl
theorem s77 {a0 : D} {L : List Bx} {R : AE → List Bx → Prop} (h : A77 a0 L R) : ASpec pr 77 [a0] L R :=
  aspec_of (A := ⟨[], []⟩) (fn := fn77) 1 mixed Tryz.func77 (by kernel_rfl) (by decide) rfl (by kernel_rfl) (by rw [A77_eq] at h; exact h)
noncomputable abbrev fn123 : Func := Tryz.f123
/- ashlar/sim.each[ashlar/api.Term,ashlar/api.Term] -/
def A123 (a0 a1 : D) (L : List Bx) (R : AE → List Bx → Prop) : Prop :=
alenL a0 fun t8 =>
alp [.nil, .i 0] L fun v2 w1 k2 =>
aar .lss (aix v2 1) t8 fun t10 =>
acnd t10 (aidxS 4 a0 (aix v2 1) fun t11 =>
aldN 4 t11 w1 fun t12 =>
abx [.i 0, .s ⟨#[]⟩, .i 0, .nil] w1 fun t6 w2 =>
ast 4 t6 t12 w2 fun w3 =>
aldN 4 t6 w3 fun t15 =>
acallF pr false a1 [t15] w3 (apn R) fun t16 w4 =>
abldS 27 4 1 [.i 0, .s ⟨#[]⟩, .i 0, .nil] [(0, 4, t16)] w4 fun t17 w5 =>
aapp 27 4 56 (aix v2 0) t17 w5 fun t18 w6 =>
aar .add (aix v2 1) (.i 1) fun t19 =>
k2 [t18, t19] w6) (R (.ret (aix v2 0)) w1)
theorem A123_eq : A123 = fun a0 a1 L R => aex pr ⟨[(5, [4, 9])], []⟩ (bodyOf fn123) (aenv0 [a0, a1]) L (apost pr fn123.results.toList R) := by kernel_rfl
theorem s123 {a0 a1 : D} {L : List Bx} {R : AE → List Bx → Prop} (h : A123 a0 a1 L R) : ASpec pr 123 [a0, a1] L R :=
  aspec_of (A := ⟨[(5, [4, 9])], []⟩) (fn := fn123) 2 mixed Tryz.func123 (by kernel_rfl) (by decide) rfl (by kernel_rfl) (by rw [A123_eq] at h; exact h)
noncomputable abbrev fn124 : Func := Tryz.f124
/- ashlar/sim.each[ashlar/api.Assign,ashlar/api.Assign] -/
def A124 (a0 a1 : D) (L : List Bx) (R : AE → List Bx → Prop) : Prop :=
alenL a0 fun t8 =>
alp [.nil, .i 0] L fun v2 w1 k2 =>
aar .lss (aix v2 1) t8 fun t10 =>
acnd t10 (aidxS 5 a0 (aix v2 1) fun t11 =>
aldN 5 t11 w1 fun t12 =>
abx [.s ⟨#[]⟩, .i 0, .s ⟨#[]⟩, .i 0, .nil] w1 fun t6 w2 =>
ast 5 t6 t12 w2 fun w3 =>
aldN 5 t6 w3 fun t15 =>
acallF pr false a1 [t15] w3 (apn R) fun t16 w4 =>
abldS 68 5 1 [.s ⟨#[]⟩, .i 0, .s ⟨#[]⟩, .i 0, .nil] [(0, 5, t16)] w4 fun t17 w5 =>
aapp 68 5 72 (aix v2 0) t17 w5 fun t18 w6 =>
aar .add (aix v2 1) (.i 1) fun t19 =>
k2 [t18, t19] w6) (R (.ret (aix v2 0)) w1)
theorem A124_eq : A124 = fun a0 a1 L R => aex pr ⟨[(5, [4, 9])], []⟩ (bodyOf fn124) (aenv0 [a0, a1]) L (apost pr fn124.results.toList R) := by kernel_rfl
theorem s124 {a0 a1 : D} {L : List Bx} {R : AE → List Bx → Prop} (h : A124 a0 a1 L R) : ASpec pr 124 [a0, a1] L R :=
  aspec_of (A := ⟨[(5, [4, 9])], []⟩) (fn := fn124) 2 mixed Tryz.func124 (by kernel_rfl) (by decide) rfl (by kernel_rfl) (by rw [A124_eq] at h; exact h)
noncomputable abbrev fn78 : Func := Tryz.f78
/- ashlar/sim.each[ashlar/api.Handler,ashlar/api.Handler] -/
def A78 (a0 a1 : D) (L : List Bx) (R : AE → List Bx → Prop) : Prop :=
alenL a0 fun t8 =>
alp [.nil, .i 0] L fun v2 w1 k2 =>
aar .lss (aix v2 1) t8 fun t10 =>
acnd t10 (aidxS 9 a0 (aix v2 1) fun t11 =>
aldN 9 t11 w1 fun t12 =>
abx [.b false, .s ⟨#[]⟩, .s ⟨#[]⟩, .i 0, .s ⟨#[]⟩, .i 0, .nil, .nil, .nil] w1 fun t6 w2 =>
ast 9 t6 t12 w2 fun w3 =>
aldN 9 t6 w3 fun t15 =>
acallF pr false a1 [t15] w3 (apn R) fun t16 w4 =>
abldS 66 9 1 [.b false, .s ⟨#[]⟩, .s ⟨#[]⟩, .i 0, .s ⟨#[]⟩, .i 0, .nil, .nil, .nil] [(0, 9, t16)] w4 fun t17 w5 =>
aapp 66 9 144 (aix v2 0) t17 w5 fun t18 w6 =>
aar .add (aix v2 1) (.i 1) fun t19 =>
k2 [t18, t19] w6) (R (.ret (aix v2 0)) w1)
theorem A78_eq : A78 = fun a0 a1 L R => aex pr ⟨[(5, [4, 9])], []⟩ (bodyOf fn78) (aenv0 [a0, a1]) L (apost pr fn78.results.toList R) := by kernel_rfl
theorem s78 {a0 a1 : D} {L : List Bx} {R : AE → List Bx → Prop} (h : A78 a0 a1 L R) : ASpec pr 78 [a0, a1] L R :=
  aspec_of (A := ⟨[(5, [4, 9])], []⟩) (fn := fn78) 2 mixed Tryz.func78 (by kernel_rfl) (by decide) rfl (by kernel_rfl) (by rw [A78_eq] at h; exact h)
noncomputable abbrev fn125 : Func := Tryz.f125
/- ashlar/sim.becomes -/
def A125 (a0 : D) (L : List Bx) (R : AE → List Bx → Prop) : Prop :=
abxv a0 L fun t1 w1 =>
abx [.s ⟨#[]⟩, .i 0, .s ⟨#[]⟩, .i 0, .nil] w1 fun t2 w2 =>
afld 0 t1 fun t3 =>
ald1 t3 w2 fun t4 =>
afld 1 t1 fun t5 =>
aldN 4 t5 w2 fun t6 =>
acallS pr 77 [t6] w2 (fun _ _ => False) fun t7 w3 =>
abld [.s ⟨#[]⟩, .i 0, .s ⟨#[]⟩, .i 0, .nil] [(0, 1, t4), (1, 4, t7)] fun t8 =>
ast 5 t2 t8 w3 fun w4 =>
aldN 5 t2 w4 fun r0 =>
R (.ret r0) w4
theorem A125_eq : A125 = fun a0 L R => aex pr ⟨[], [(1, [(0, 0), (1, 0), (2, 0), (3, 0), (4, 0), (5, 0), (6, 2)])]⟩ (bodyOf fn125) (aenv0 [a0]) L (apost pr fn125.results.toList R) := by kernel_rfl
theorem s125 {a0 : D} {L : List Bx} {R : AE → List Bx → Prop} (h : A125 a0 L R) : ASpec pr 125 [a0] L R :=
  aspec_of (A := ⟨[], [(1, [(0, 0), (1, 0), (2, 0), (3, 0), (4, 0), (5, 0), (6, 2)])]⟩) (fn := fn125) 1 mixed Tryz.func125 (by kernel_rfl) (by decide) rfl (by kernel_rfl) (by rw [A125_eq] at h; exact h)
noncomputable abbrev fn79 : Func := Tryz.f79
/- ashlar/sim.handler -/
def A79 (a0 : D) (L : List Bx) (R : AE → List Bx → Prop) : Prop :=
abxv a0 L fun t1 w1 =>
abx [.b false, .s ⟨#[]⟩, .s ⟨#[]⟩, .i 0, .s ⟨#[]⟩, .i 0, .nil, .nil, .nil] w1 fun t2 w2 =>
afld 3 t1 fun t3 =>
aldN 4 t3 w2 fun t4 =>
acallS pr 77 [t4] w2 (fun _ _ => False) fun t5 w3 =>
afld 7 t1 fun t6 =>
ald1 t6 w3 fun t7 =>
acallS pr 124 [t7, .fn 125 [] []] w3 (fun _ _ => False) fun t8 w4 =>
afld 8 t1 fun t9 =>
ald1 t9 w4 fun t10 =>
acallS pr 126 [t10] w4 (fun _ _ => False) fun t11 w5 =>
afld 3 t1 fun t12 =>
ast 4 t12 t5 w5 fun w6 =>
afld 7 t1 fun t13 =>
ast 1 t13 t8 w6 fun w7 =>
afld 8 t1 fun t14 =>
ast 1 t14 t11 w7 fun w8 =>
aldN 9 t1 w8 fun t15 =>
ast 9 t2 t15 w8 fun w9 =>
aldN 9 t2 w9 fun r0 =>
R (.ret r0) w9
theorem A79_eq : A79 = fun a0 L R => aex pr ⟨[], [(1, [(0, 0), (1, 0), (2, 0), (3, 0), (4, 0), (5, 0), (6, 0), (7, 0), (8, 0), (9, 0), (10, 2), (11, 0), (12, 2), (13, 0), (14, 2)])]⟩ (bodyOf fn79) (aenv0 [a0]) L (apost pr fn79.results.toList R) := by kernel_rfl
theorem s79 {a0 : D} {L : List Bx} {R : AE → List Bx → Prop} (h : A79 a0 L R) : ASpec pr 79 [a0] L R :=
  aspec_of (A := ⟨[], [(1, [(0, 0), (1, 0), (2, 0), (3, 0), (4, 0), (5, 0), (6, 0), (7, 0), (8, 0), (9, 0), (10, 2), (11, 0), (12, 2), (13, 0), (14, 2)])]⟩) (fn := fn79) 1 mixed Tryz.func79 (by kernel_rfl) (by decide) rfl (by kernel_rfl) (by rw [A79_eq] at h; exact h)
noncomputable abbrev fn38 : Func := Tryz.f38
/- ashlar/sim.own -/
def A38 (a0 : D) (L : List Bx) (R : AE → List Bx → Prop) : Prop :=
abxv a0 L fun t1 w1 =>
abx [.nil, .nil, .nil, .nil, .nil, .nil, .i 0, .s ⟨#[]⟩, .i 0, .nil, .nil] w1 fun t2 w2 =>
afld 6 t1 fun t3 =>
aldN 4 t3 w2 fun t4 =>
acallS pr 77 [t4] w2 (fun _ _ => False) fun t5 w3 =>
afld 5 t1 fun t6 =>
ald1 t6 w3 fun t7 =>
acallS pr 78 [t7, .fn 79 [] []] w3 (fun _ _ => False) fun t8 w4 =>
abld [.nil, .nil, .nil, .nil, .nil, .nil, .i 0, .s ⟨#[]⟩, .i 0, .nil, .nil] [(6, 4, t5), (5, 1, t8)] fun t9 =>
ast 11 t2 t9 w4 fun w5 =>
aldN 11 t2 w5 fun r0 =>
R (.ret r0) w5
theorem A38_eq : A38 = fun a0 L R => aex pr ⟨[], [(1, [(0, 0), (1, 0), (2, 0), (3, 0), (4, 0), (5, 0), (6, 0), (7, 2)])]⟩ (bodyOf fn38) (aenv0 [a0]) L (apost pr fn38.results.toList R) := by kernel_rfl
theorem s38 {a0 : D} {L : List Bx} {R : AE → List Bx → Prop} (h : A38 a0 L R) : ASpec pr 38 [a0] L R :=
  aspec_of (A := ⟨[], [(1, [(0, 0), (1, 0), (2, 0), (3, 0), (4, 0), (5, 0), (6, 0), (7, 2)])]⟩) (fn := fn38) 1 mixed Tryz.func38 (by kernel_rfl) (by decide) rfl (by kernel_rfl) (by rw [A38_eq] at h; exact h)
noncomputable abbrev fn39 : Func := Tryz.f39
/- (*ashlar/sim.Sim).names -/
def A39 (a0 a1 a2 : D) (L : List Bx) (R : AE → List Bx → Prop) : Prop :=
abxv a2 L fun t5 w1 =>
alenL a1 fun t9 =>
alp [.i 0] w1 fun v2 w2 k2 =>
aar .lss (aix v2 0) t9 fun t11 =>
acnd t11 (aidxS 1 a1 (aix v2 0) fun t12 =>
ald1 t12 w2 fun t13 =>
anilc a0 fun t16 =>
afld 11 t16 fun t17 =>
aldN 2 t17 w2 fun t18 =>
aldN 4 t5 w2 fun t20 =>
acallS pr 34 [t18, t13, t20] w2 (fun _ _ => False) fun t21 w3 =>
anilc a0 fun t22 =>
afld 11 t22 fun t23 =>
ast 2 t23 t21 w3 fun w4 =>
aar .add (aix v2 0) (.i 1) fun t24 =>
k2 [t24] w4) (R (.ret (.tuple [])) w2)
theorem A39_eq : A39 = fun a0 a1 a2 L R => aex pr ⟨[(5, [10])], [(4, [(0, 0), (1, 0), (2, 0), (3, 0), (4, 0), (5, 0), (6, 0), (7, 0), (8, 0), (9, 0), (10, 2)])]⟩ (bodyOf fn39) (aenv0 [a0, a1, a2]) L (apost pr fn39.results.toList R) := by kernel_rfl
theorem s39 {a0 a1 a2 : D} {L : List Bx} {R : AE → List Bx → Prop} (h : A39 a0 a1 a2 L R) : ASpec pr 39 [a0, a1, a2] L R :=
  aspec_of (A := ⟨[(5, [10])], [(4, [(0, 0), (1, 0), (2, 0), (3, 0), (4, 0), (5, 0), (6, 0), (7, 0), (8, 0), (9, 0), (10, 2)])]⟩) (fn := fn39) 3 mixed Tryz.func39 (by kernel_rfl) (by decide) rfl (by kernel_rfl) (by rw [A39_eq] at h; exact h)
noncomputable abbrev fn13 : Func := Tryz.f13
/- ashlar/sim.New -/
def A13 (a0 a1 : D) (L : List Bx) (R : AE → List Bx → Prop) : Prop :=
abxv a0 L fun t2 w1 =>
aldN 11 t2 w1 fun t13 =>
acallW pr 26 [t13] w1 (apn R) fun t14 w2 =>
aar .neq t14 (.i 0) fun t16 =>
acnd t16 (R (.ret (.tuple [.val (.pointer none), t14])) w2) (ajn (fun v6 w3 =>
aldN 11 t2 w3 fun t24 =>
acallW pr 38 [t24] w3 (apn R) fun t25 w4 =>
abld [.i 0, .nil] [(0, 1, a1)] fun t27 =>
abld [.nil, .nil, .nil, .nil, .nil, .nil, .i 0, .s ⟨#[]⟩, .i 0, .nil, .nil, .i 0, .nil, .nil] [(0, 11, t25), (11, 2, t27)] fun t28 =>
abxv t28 w4 fun t29 w5 =>
afld 0 t2 fun t31 =>
ald1 t31 w5 fun t32 =>
abld [.i 0, .i 0, .b false, .nil] [(0, 1, .i 1)] fun t33 =>
acallW pr 39 [t29, t32, t33] w5 (apn R) fun t34 w6 =>
afld 1 t2 fun t36 =>
ald1 t36 w6 fun t37 =>
abld [.i 0, .i 0, .b false, .nil] [(0, 1, .i 4)] fun t38 =>
acallW pr 39 [t29, t37, t38] w6 (apn R) fun t39 w7 =>
amkS 4 1 1 [.b false] a1 a1 w7 fun t41 w8 =>
abld [.i 0, .i 0, .b false, .nil] [(0, 1, .i 2), (3, 1, t41)] fun t42 =>
abx [.i 0, .i 0, .b false, .nil] w8 fun t8 w9 =>
ast 4 t8 t42 w9 fun w10 =>
afld 2 t2 fun t44 =>
ald1 t44 w10 fun t45 =>
aldN 4 t8 w10 fun t46 =>
acallW pr 39 [t29, t45, t46] w10 (apn R) fun t47 w11 =>
afld 3 t2 fun t49 =>
ald1 t49 w11 fun t50 =>
aldN 4 t8 w11 fun t51 =>
acallW pr 39 [t29, t50, t51] w11 (apn R) fun t52 w12 =>
afld 4 t2 fun t53 =>
ald1 t53 w12 fun t54 =>
alenL t54 fun t55 =>
alp [.i 0] w12 fun v13 w13 k13 =>
aar .lss (aix v13 0) t55 fun t57 =>
acnd t57 (aidxS 5 t54 (aix v13 0) fun t58 =>
aldN 5 t58 w13 fun t59 =>
abx [.s ⟨#[]⟩, .i 0, .s ⟨#[]⟩, .i 0, .nil] w13 fun t10 w14 =>
ast 5 t10 t59 w14 fun w15 =>
afld 1 t10 fun t61 =>
aldN 4 t61 w15 fun t62 =>
abld [.i 0, .nil] [(0, 1, a1)] fun t64 =>
acallW pr 31 [t62, t64] w15 (apn R) fun t65 w16 =>
aext 0 t65 fun t66 =>
aext 1 t65 fun t67 =>
abx [.i 0, .i 0, .b false, .nil] w16 fun t11 w17 =>
ast 4 t11 t66 w17 fun w18 =>
aar .neq t67 (.i 0) fun t69 =>
acnd t69 (R (.ret (.tuple [.val (.pointer none), t67])) w18) (anilc t29 fun t73 =>
afld 11 t73 fun t74 =>
aldN 2 t74 w18 fun t75 =>
afld 0 t10 fun t76 =>
ald1 t76 w18 fun t77 =>
aldN 4 t11 w18 fun t78 =>
acallS pr 34 [t75, t77, t78] w18 (fun _ _ => False) fun t79 w19 =>
anilc t29 fun t80 =>
afld 11 t80 fun t81 =>
ast 2 t81 t79 w19 fun w20 =>
aar .add (aix v13 0) (.i 1) fun t82 =>
k13 [t82] w20)) (R (.ret (.tuple [t29, .i 0])) w13)) fun j6 =>
aar .lss a1 (.i 1) fun t19 =>
acnd t19 (R (.ret (.tuple [.val (.pointer none), .i 1])) w2) (aar .gtr a1 (.i 64) fun t22 =>
acnd t22 (R (.ret (.tuple [.val (.pointer none), .i 1])) w2) (j6 [] w2)))
theorem A13_eq : A13 = fun a0 a1 L R => aex pr ⟨[(12, []), (27, [56])], [(18, [(0, 0), (1, 0), (2, 0), (3, 0), (4, 0), (5, 0), (6, 0), (7, 0), (8, 0), (9, 0), (10, 0), (11, 2)])]⟩ (bodyOf fn13) (aenv0 [a0, a1]) L (apost pr fn13.results.toList R) := by kernel_rfl
theorem s13 {a0 a1 : D} {L : List Bx} {R : AE → List Bx → Prop} (h : A13 a0 a1 L R) : ASpec pr 13 [a0, a1] L R :=
  aspec_of (A := ⟨[(12, []), (27, [56])], [(18, [(0, 0), (1, 0), (2, 0), (3, 0), (4, 0), (5, 0), (6, 0), (7, 0), (8, 0), (9, 0), (10, 0), (11, 2)])]⟩) (fn := fn13) 2 mixed Tryz.func13 (by kernel_rfl) (by decide) rfl (by kernel_rfl) (by rw [A13_eq] at h; exact h)
noncomputable abbrev fn20 : Func := Tryz.f20
/- (*ashlar/sim.Sim).World -/
def A20 (a0 : D) (L : List Bx) (R : AE → List Bx → Prop) : Prop :=
abx [.i 0, .nil] L fun t2 w1 =>
anilc a0 fun t7 =>
afld 11 t7 fun t8 =>
aldN 2 t8 w1 fun t9 =>
abx [.i 0, .nil] w1 fun t3 w2 =>
ast 2 t3 t9 w2 fun w3 =>
afld 1 t3 fun t10 =>
ast 1 t10 (.nil) w3 fun w4 =>
anilc a0 fun t12 =>
afld 11 t12 fun t13 =>
afld 1 t13 fun t14 =>
ald1 t14 w4 fun t15 =>
alenL t15 fun t16 =>
alp [.i 0] w4 fun v4 w5 k4 =>
aar .lss (aix v4 0) t16 fun t18 =>
acnd t18 (aidxS 5 t15 (aix v4 0) fun t19 =>
aldN 5 t19 w5 fun t20 =>
abx [.s ⟨#[]⟩, .i 0, .i 0, .b false, .nil] w5 fun t5 w6 =>
ast 5 t5 t20 w6 fun w7 =>
afld 1 t5 fun t21 =>
afld 3 t21 fun t22 =>
ald1 t22 w7 fun t23 =>
acallW pr 49 [t23] w7 (apn R) fun t24 w8 =>
afld 1 t5 fun t25 =>
afld 3 t25 fun t26 =>
ast 1 t26 t24 w8 fun w9 =>
afld 1 t3 fun t27 =>
ald1 t27 w9 fun t28 =>
aldN 5 t5 w9 fun t29 =>
abldS 70 5 1 [.s ⟨#[]⟩, .i 0, .i 0, .b false, .nil] [(0, 5, t29)] w9 fun t30 w10 =>
aapp 70 5 64 t28 t30 w10 fun t31 w11 =>
afld 1 t3 fun t32 =>
ast 1 t32 t31 w11 fun w12 =>
aar .add (aix v4 0) (.i 1) fun t33 =>
k4 [t33] w12) (aldN 2 t3 w5 fun t34 =>
ast 2 t2 t34 w5 fun w13 =>
aldN 2 t2 w13 fun r0 =>
R (.ret r0) w13)
theorem A20_eq : A20 = fun a0 L R => aex pr ⟨[(9, [17])], []⟩ (bodyOf fn20) (aenv0 [a0]) L (apost pr fn20.results.toList R) := by kernel_rfl
theorem s20 {a0 : D} {L : List Bx} {R : AE → List Bx → Prop} (h : A20 a0 L R) : ASpec pr 20 [a0] L R :=
  aspec_of (A := ⟨[(9, [17])], []⟩) (fn := fn20) 1 mixed Tryz.func20 (by kernel_rfl) (by decide) rfl (by kernel_rfl) (by rw [A20_eq] at h; exact h)
end Go.Proofs.YtdalobojhfafbaaGreatDoor
