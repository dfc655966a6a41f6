/- What must hold ahead of a call, function by function: printed by a program. -/
import Derived.Test.YtlonmopppgadgaaDoorW2
import Derived.KernelRfl
set_option maxRecDepth 100000
set_option linter.unusedVariables false
namespace Go.Proofs.YtlonmopppgadgaaDoor
open Go Go.V
noncomputable abbrev fn39 : Func := Tryd.f39
/- ashlar/ashlarref03.Names -/
def A39 (a0 : D) (L : List Bx) (R : AE → List Bx → Prop) : Prop :=
abxv a0 L fun t1 w1 =>
aldN 4 t1 w1 fun t6 =>
acallW pr 34 [t6] w1 (apn R) fun t7 w2 =>
aext 0 t7 fun t8 =>
aext 1 t7 fun t9 =>
aar .neq t9 (.i 0) fun t11 =>
acnd t11 (R (.ret (.nil)) w2) (aldN 4 t1 w2 fun t12 =>
acallW pr 69 [.nil, t12] w2 (apn R) fun t13 w3 =>
R (.ret t13) w3)
theorem A39_eq : A39 = fun a0 L R => aex pr ⟨[], []⟩ (bodyOf fn39) (aenv0 [a0]) L (apost pr fn39.results.toList R) := by kernel_rfl
theorem s39 {a0 : D} {L : List Bx} {R : AE → List Bx → Prop} (h : A39 a0 L R) : ASpec pr 39 [a0] L R :=
  aspec_of (A := ⟨[], []⟩) (fn := fn39) 1 mixed Tryd.func39 (by kernel_rfl) (by decide) rfl (by kernel_rfl) (by rw [A39_eq] at h; exact h)
noncomputable abbrev fn37 : Func := Tryd.f37
/- ashlar/ashlarlaw03.same -/
def A37 (a0 a1 : D) (L : List Bx) (R : AE → List Bx → Prop) : Prop :=
alenL a0 fun t7 =>
alenL a1 fun t9 =>
aar .neq t7 t9 fun t10 =>
acnd t10 (R (.ret (.b false)) L) (alp [.i 0] L fun v4 w1 k4 =>
alenL a0 fun t13 =>
aar .lss (aix v4 0) t13 fun t14 =>
acnd t14 (aidxS 5 a0 (aix v4 0) fun t19 =>
afld 0 t19 fun t20 =>
ald1 t20 w1 fun t21 =>
aidxS 5 a1 (aix v4 0) fun t24 =>
afld 0 t24 fun t25 =>
ald1 t25 w1 fun t26 =>
aar .neq t21 t26 fun t27 =>
acnd t27 (R (.ret (.b false)) w1) (aidxS 5 a0 (aix v4 0) fun t31 =>
afld 1 t31 fun t32 =>
aldN 4 t32 w1 fun t33 =>
aidxS 5 a1 (aix v4 0) fun t36 =>
afld 1 t36 fun t37 =>
aldN 4 t37 w1 fun t38 =>
acallS pr 20 [t33, t38] w1 (fun _ _ => False) fun t39 w2 =>
anotb t39 fun t40 =>
acnd t40 (R (.ret (.b false)) w2) (aar .add (aix v4 0) (.i 1) fun t16 =>
k4 [t16] w2))) (R (.ret (.b true)) w1))
theorem A37_eq : A37 = fun a0 a1 L R => aex pr ⟨[(9, [5])], [(6, [(0, 0), (1, 0), (2, 0), (3, 0), (4, 0), (5, 0), (6, 0), (7, 0), (8, 0), (9, 0), (10, 0), (11, 0), (12, 0), (13, 0), (14, 0), (15, 0), (16, 0), (17, 0), (18, 0), (19, 0), (20, 0), (21, 0), (22, 0), (23, 0), (24, 0)])]⟩ (bodyOf fn37) (aenv0 [a0, a1]) L (apost pr fn37.results.toList R) := by kernel_rfl
theorem s37 {a0 a1 : D} {L : List Bx} {R : AE → List Bx → Prop} (h : A37 a0 a1 L R) : ASpec pr 37 [a0, a1] L R :=
  aspec_of (A := ⟨[(9, [5])], [(6, [(0, 0), (1, 0), (2, 0), (3, 0), (4, 0), (5, 0), (6, 0), (7, 0), (8, 0), (9, 0), (10, 0), (11, 0), (12, 0), (13, 0), (14, 0), (15, 0), (16, 0), (17, 0), (18, 0), (19, 0), (20, 0), (21, 0), (22, 0), (23, 0), (24, 0)])]⟩) (fn := fn37) 2 mixed Tryd.func37 (by kernel_rfl) (by decide) rfl (by kernel_rfl) (by rw [A37_eq] at h; exact h)
noncomputable abbrev fn11 : Func := Tryd.f11
/- ashlar/ashlarlaw03.TermTells -/
def A11 (a0 a1 a2 : D) (L : List Bx) (R : AE → List Bx → Prop) : Prop :=
abxv a0 L fun t3 w1 =>
abxv a1 w1 fun t4 w2 =>
acallW pr 33 [] w2 (apn R) fun t12 w3 =>
aldN 4 t3 w3 fun t14 =>
acallW pr 23 [t14] w3 (apn R) fun t15 w4 =>
aext 0 t15 fun t16 =>
aext 1 t15 fun t17 =>
aldN 4 t3 w4 fun t19 =>
acallW pr 34 [t19] w4 (apn R) fun t20 w5 =>
aext 0 t20 fun t21 =>
aext 1 t20 fun t22 =>
acnd t12 (aar .eql t16 t21 fun t27 =>
acnd t27 (aar .eql t17 t22 fun t32 =>
acnd t32 (aldN 4 t3 w5 fun t35 =>
acallS pr 25 [t35] w5 (fun _ _ => False) fun t36 w6 =>
aldN 4 t3 w6 fun t37 =>
acallS pr 35 [t37] w6 (fun _ _ => False) fun t38 w7 =>
aar .eql t36 t38 fun t39 =>
acnd t39 (aldN 4 t3 w7 fun t42 =>
acallS pr 24 [t42] w7 (fun _ _ => False) fun t43 w8 =>
aldN 4 t3 w8 fun t44 =>
acallS pr 36 [t44] w8 (fun _ _ => False) fun t45 w9 =>
aar .eql t43 t45 fun t46 =>
acnd t46 (aldN 4 t3 w9 fun t49 =>
acallS pr 38 [t49] w9 (fun _ _ => False) fun t50 w10 =>
aldN 4 t3 w10 fun t51 =>
acallS pr 39 [t51] w10 (fun _ _ => False) fun t52 w11 =>
acallS pr 37 [t50, t52] w11 (fun _ _ => False) fun t53 w12 =>
acnd t53 (aldN 4 t3 w12 fun t56 =>
aldN 4 t4 w12 fun t57 =>
acallS pr 40 [t56, t57] w12 (fun _ _ => False) fun t58 w13 =>
aldN 4 t3 w13 fun t59 =>
aldN 4 t4 w13 fun t60 =>
acallS pr 20 [t59, t60] w13 (fun _ _ => False) fun t61 w14 =>
aarB .eql t58 t61 fun t62 =>
acnd t62 (acallS pr 41 [a2] w14 (fun _ _ => False) fun t66 w15 =>
acallS pr 42 [a2] w15 (fun _ _ => False) fun t68 w16 =>
aarB .eql t66 t68 fun t69 =>
R (.ret t69) w16) (R (.ret (.b false)) w14)) (R (.ret (.b false)) w12)) (R (.ret (.b false)) w9)) (R (.ret (.b false)) w7)) (R (.ret (.b false)) w5)) (R (.ret (.b false)) w5)) (R (.ret (.b false)) w5)
theorem A11_eq : A11 = fun a0 a1 a2 L R => aex pr ⟨[], [(4, [(0, 0), (1, 0), (2, 0), (3, 0), (4, 0), (5, 0), (6, 0), (7, 0), (8, 0), (9, 0), (10, 0), (11, 0), (12, 0), (13, 0), (14, 0), (15, 0), (16, 0), (17, 0), (18, 0), (19, 0), (20, 0), (21, 0), (22, 0), (23, 0), (24, 0), (25, 0), (26, 0), (27, 0), (28, 0), (29, 0), (30, 0), (31, 0), (32, 0), (33, 0), (34, 0), (35, 0), (36, 0), (37, 0), (38, 0), (39, 0), (40, 0), (41, 0), (42, 0), (43, 0), (44, 0), (45, 0), (46, 0), (47, 0), (48, 2)])]⟩ (bodyOf fn11) (aenv0 [a0, a1, a2]) L (apost pr fn11.results.toList R) := by kernel_rfl
theorem s11 {a0 a1 a2 : D} {L : List Bx} {R : AE → List Bx → Prop} (h : A11 a0 a1 a2 L R) : ASpec pr 11 [a0, a1, a2] L R :=
  aspec_of (A := ⟨[], [(4, [(0, 0), (1, 0), (2, 0), (3, 0), (4, 0), (5, 0), (6, 0), (7, 0), (8, 0), (9, 0), (10, 0), (11, 0), (12, 0), (13, 0), (14, 0), (15, 0), (16, 0), (17, 0), (18, 0), (19, 0), (20, 0), (21, 0), (22, 0), (23, 0), (24, 0), (25, 0), (26, 0), (27, 0), (28, 0), (29, 0), (30, 0), (31, 0), (32, 0), (33, 0), (34, 0), (35, 0), (36, 0), (37, 0), (38, 0), (39, 0), (40, 0), (41, 0), (42, 0), (43, 0), (44, 0), (45, 0), (46, 0), (47, 0), (48, 2)])]⟩) (fn := fn11) 3 mixed Tryd.func11 (by kernel_rfl) (by decide) rfl (by kernel_rfl) (by rw [A11_eq] at h; exact h)
end Go.Proofs.YtlonmopppgadgaaDoor
