/- What must hold ahead of a call, function by function: printed by a program. -/
import Derived.Test.YtdalobojhfafbaaGreatDoorW9
import Derived.KernelRfl
set_option maxRecDepth 100000
set_option linter.unusedVariables false
namespace Go.Proofs.YtdalobojhfafbaaGreatDoor
open Go Go.V
noncomputable abbrev fn156 : Func := Tryz.f156
def A156 (a0 a1 : D) (L : List Bx) (R : AE → List Bx → Prop) : Prop :=
abxv a1 L fun t3 w1 =>
abx [.i 0, .s ⟨#[]⟩, .i 0, .nil] w1 fun t4 w2 =>
ajn (fun v9 w3 =>
anilc a0 fun t52 =>
afld 1 t52 fun t53 =>
ald1 t53 w3 fun t54 =>
aar .add t54 (.i 1) fun t55 =>
anilc a0 fun t56 =>
afld 1 t56 fun t57 =>
ast 1 t57 t55 w3 fun w4 =>
aldN 4 t3 w4 fun t58 =>
abx [.i 0, .s ⟨#[]⟩, .i 0, .nil] w4 fun t10 w5 =>
ast 4 t10 t58 w5 fun w6 =>
afld 3 t10 fun t59 =>
ast 1 t59 (.nil) w6 fun w7 =>
afld 3 t3 fun t60 =>
ald1 t60 w7 fun t61 =>
alenL t61 fun t62 =>
alp [.i 0] w7 fun v13 w8 k13 =>
aar .lss (aix v13 0) t62 fun t64 =>
acnd t64 (aidxS 4 t61 (aix v13 0) fun t65 =>
aldN 4 t65 w8 fun t66 =>
abx [.i 0, .s ⟨#[]⟩, .i 0, .nil] w8 fun t12 w9 =>
ast 4 t12 t66 w9 fun w10 =>
anilc a0 fun t68 =>
afld 1 t68 fun t69 =>
ald1 t69 w10 fun t70 =>
aar .gtr t70 (.i 2000) fun t71 =>
acnd t71 (aldN 4 t10 w10 fun t81 =>
ast 4 t4 t81 w10 fun w11 =>
aldN 4 t4 w11 fun r0 =>
R (.ret r0) w11) (afld 3 t10 fun t72 =>
∃ x, x ∈ w10 ∧ x.k = .box ∧
ald1 t72 ([x]) fun t73 =>
aldN 4 t12 w10 fun t75 =>
acallW pr 156 [a0, t75] w10 (apn R) fun t76 w12 =>
(∀ x ∈ w10, x.k = .box → x ∈ w12) ∧
abldF 4 1 [.i 0, .s ⟨#[]⟩, .i 0, .nil] [(0, 4, t76)] fun t77 =>
aapp 27 4 56 t73 t77 w12 fun t78 w13 =>
afld 3 t10 fun t79 =>
ast 1 t79 t78 w13 fun w14 =>
aar .add (aix v13 0) (.i 1) fun t80 =>
k13 [t80] w14)) (aldN 4 t10 w8 fun t81 =>
ast 4 t4 t81 w8 fun w15 =>
aldN 4 t4 w15 fun r0 =>
R (.ret r0) w15)) fun j9 =>
afld 1 t3 fun t13 =>
ald1 t13 w2 fun t14 =>
aar .neq t14 (.s ⟨#[]⟩) fun t15 =>
acnd t15 (aldN 4 t3 w2 fun t17 =>
acallW pr 69 [t17] w2 (apn R) fun t18 w16 =>
aext 0 t18 fun t19 =>
aext 1 t18 fun t20 =>
anilc a0 fun t23 =>
afld 0 t23 fun t24 =>
ald1 t24 w16 fun t25 =>
afld 1 t3 fun t26 =>
ald1 t26 w16 fun t27 =>
abld [.s ⟨#[]⟩, .i 0] [(0, 1, t27), (1, 1, t19)] fun t29 =>
alkM pr 212 true (.agg [.val (.int .i64 0), .val (.string ⟨#[]⟩), .val (.int .i64 0), .val (.slice none 0 0)]) t25 t29 w16 fun t30 =>
aext 0 t30 fun t31 =>
aext 1 t30 fun t32 =>
abx [.i 0, .s ⟨#[]⟩, .i 0, .nil] w16 fun t7 w17 =>
ast 4 t7 t31 w17 fun w18 =>
acnd t32 (anilc a0 fun t35 =>
afld 1 t35 fun t36 =>
ald1 t36 w18 fun t37 =>
abld [.val (.map none), .i 0] [(1, 1, t37)] fun t38 =>
abxv t38 w18 fun t39 w19 =>
aldN 4 t7 w19 fun t41 =>
acallW pr 156 [t39, t41] w19 (apn R) fun t42 w20 =>
ast 4 t7 t42 w20 fun w21 =>
anilc t39 fun t45 =>
afld 1 t45 fun t46 =>
ald1 t46 w21 fun t47 =>
anilc a0 fun t48 =>
afld 1 t48 fun t49 =>
ast 1 t49 t47 w21 fun w22 =>
aldN 4 t7 w22 fun t50 =>
ast 4 t4 t50 w22 fun w23 =>
aldN 4 t4 w23 fun r0 =>
R (.ret r0) w23) (j9 [] w18)) (j9 [] w2)
theorem A156_eq : A156 = fun a0 a1 L R => aex pr ⟨[(18, []), (27, [63])], [(3, [(0, 0), (1, 0), (2, 0), (3, 0), (4, 0), (5, 0), (6, 0), (7, 0), (8, 0), (9, 0), (10, 0), (11, 0), (12, 3), (13, 2), (14, 2)]), (16, [(0, 0), (1, 5), (2, 0), (3, 0), (4, 4), (5, 0), (6, 2), (7, 0), (8, 2)])]⟩ (bodyOf fn156) (aenv0 [a0, a1]) L (apost pr fn156.results.toList R) := by kernel_rfl
theorem s156 {a0 a1 : D} {L : List Bx} {R : AE → List Bx → Prop} (h : A156 a0 a1 L R) : ASpec pr 156 [a0, a1] L R :=
  aspec_of (A := ⟨[(18, []), (27, [63])], [(3, [(0, 0), (1, 0), (2, 0), (3, 0), (4, 0), (5, 0), (6, 0), (7, 0), (8, 0), (9, 0), (10, 0), (11, 0), (12, 3), (13, 2), (14, 2)]), (16, [(0, 0), (1, 5), (2, 0), (3, 0), (4, 4), (5, 0), (6, 2), (7, 0), (8, 2)])]⟩) (fn := fn156) 2 mixed Tryz.func156 (by kernel_rfl) (by decide) rfl (by kernel_rfl) (by rw [A156_eq] at h; exact h)
noncomputable abbrev fn155 : Func := Tryz.f155
def A155 (a0 : D) (L : List Bx) (R : AE → List Bx → Prop) : Prop :=
abxv a0 L fun t1 w1 =>
R (.ret (.fn 187 [] [t1])) w1
theorem A155_eq : A155 = fun a0 L R => aex pr ⟨[], []⟩ (bodyOf fn155) (aenv0 [a0]) L (apost pr fn155.results.toList R) := by kernel_rfl
theorem s155 {a0 : D} {L : List Bx} {R : AE → List Bx → Prop} (h : A155 a0 L R) : ASpec pr 155 [a0] L R :=
  aspec_of (A := ⟨[], []⟩) (fn := fn155) 1 mixed Tryz.func155 (by kernel_rfl) (by decide) rfl (by kernel_rfl) (by rw [A155_eq] at h; exact h)
noncomputable abbrev fn143 : Func := Tryz.f143
def A143 (a0 a1 : D) (L : List Bx) (R : AE → List Bx → Prop) : Prop :=
acallW pr 181 [a0, a1] L (apn R) fun t7 w1 =>
aar .geq t7 (.i 0) fun t8 =>
R (.ret t8) w1
theorem A143_eq : A143 = fun a0 a1 L R => aex pr ⟨[], []⟩ (bodyOf fn143) (aenv0 [a0, a1]) L (apost pr fn143.results.toList R) := by kernel_rfl
theorem s143 {a0 a1 : D} {L : List Bx} {R : AE → List Bx → Prop} (h : A143 a0 a1 L R) : ASpec pr 143 [a0, a1] L R :=
  aspec_of (A := ⟨[], []⟩) (fn := fn143) 2 mixed Tryz.func143 (by kernel_rfl) (by decide) rfl (by kernel_rfl) (by rw [A143_eq] at h; exact h)
noncomputable abbrev fn181 : Func := Tryz.f181
def A181 (a0 a1 : D) (L : List Bx) (R : AE → List Bx → Prop) : Prop :=
alenL a0 fun t7 =>
alp [.i 0] L fun v2 w1 k2 =>
aar .lss (aix v2 0) t7 fun t9 =>
acnd t9 (aidxS 5 a0 (aix v2 0) fun t14 =>
aldN 5 t14 w1 fun t15 =>
acallF pr false a1 [t15] w1 (apn R) fun t16 w2 =>
acnd t16 (R (.ret (aix v2 0)) w2) (aar .add (aix v2 0) (.i 1) fun t18 =>
k2 [t18] w2)) (R (.ret (.i (-1))) w1)
theorem A181_eq : A181 = fun a0 a1 L R => aex pr ⟨[(5, [8])], []⟩ (bodyOf fn181) (aenv0 [a0, a1]) L (apost pr fn181.results.toList R) := by kernel_rfl
theorem s181 {a0 a1 : D} {L : List Bx} {R : AE → List Bx → Prop} (h : A181 a0 a1 L R) : ASpec pr 181 [a0, a1] L R :=
  aspec_of (A := ⟨[(5, [8])], []⟩) (fn := fn181) 2 mixed Tryz.func181 (by kernel_rfl) (by decide) rfl (by kernel_rfl) (by rw [A181_eq] at h; exact h)
end Go.Proofs.YtdalobojhfafbaaGreatDoor
