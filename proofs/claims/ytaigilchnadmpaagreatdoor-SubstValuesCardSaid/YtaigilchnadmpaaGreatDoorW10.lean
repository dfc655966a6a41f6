/- What must hold ahead of a call, function by function: printed by a program. -/
import Derived.Test.YtaigilchnadmpaaGreatDoorW9
import Derived.KernelRfl
set_option maxRecDepth 100000
set_option linter.unusedVariables false
namespace Go.Proofs.YtaigilchnadmpaaGreatDoor
open Go Go.V
noncomputable abbrev fn19 : Func := Tryz.f19
/- ashlar/subst.Fresh -/
def A19 (a0 a1 : D) (L : List Bx) (R : AE → List Bx → Prop) : Prop :=
ajn (fun v3 w1 =>
amkM w1 fun t15 w2 =>
alenL a0 fun t17 =>
alp [.i 0] w2 fun v5 w3 k5 =>
aar .lss (aix v5 0) t17 fun t19 =>
acnd t19 (aidxS 4 a0 (aix v5 0) fun t20 =>
aldN 4 t20 w3 fun t21 =>
abx [.i 0, .s ⟨#[]⟩, .i 0, .nil] w3 fun t7 w4 =>
ast 4 t7 t21 w4 fun w5 =>
aldN 4 t7 w5 fun t22 =>
acallW pr 59 [t22] w5 (apn R) fun t23 w6 =>
alenL t23 fun t24 =>
alp [.i 0] w6 fun v8 w7 k8 =>
aar .lss (aix v8 0) t24 fun t26 =>
acnd t26 (aidxS 5 t23 (aix v8 0) fun t27 =>
aldN 5 t27 w7 fun t28 =>
abx [.s ⟨#[]⟩, .i 0, .s ⟨#[]⟩, .i 0, .nil] w7 fun t9 w8 =>
ast 5 t9 t28 w8 fun w9 =>
afld 0 t9 fun t30 =>
ald1 t30 w9 fun t31 =>
aupM pr 9 t15 t31 (.b true) w9 fun w10 =>
aar .add (aix v8 0) (.i 1) fun t32 =>
k8 [t32] w10) (aar .add (aix v5 0) (.i 1) fun t33 =>
k5 [t33] w7)) (alkM pr 9 false (.b false) t15 (aix v3 0) w3 fun t36 =>
anotb t36 fun t37 =>
acnd t37 (R (.ret (aix v3 0)) w3) (alp [.s ⟨#[]⟩, .i 0] w3 fun v17 w11 k17 =>
aar .lss (aix v17 1) (.i 100) fun t40 =>
acnd t40 (alenS (aix v3 0) fun t44 =>
amin2 t44 (.i 13) fun t45 =>
aslcS (aix v3 0) none (some t45) fun t46 =>
aar .add t46 (.s ⟨#[95]⟩) fun t47 =>
acallS pr 62 [aix v17 1] w11 (fun _ _ => False) fun t49 w12 =>
aar .add t47 t49 fun t50 =>
alkM pr 9 false (.b false) t15 t50 w12 fun t53 =>
anotb t53 fun t54 =>
acnd t54 (R (.ret t50) w12) (aar .add (aix v17 1) (.i 1) fun t55 =>
k17 [t50, t55] w12)) (R (.ret (aix v17 0)) w11)))) fun j3 =>
acallW pr 44 [a1] L (apn R) fun t13 w13 =>
anotb t13 fun t14 =>
acnd t14 (j3 [.s ⟨#[120]⟩] w13) (j3 [a1] w13)
theorem A19_eq : A19 = fun a0 a1 L R => aex pr ⟨[(6, [1]), (11, [18]), (17, [25]), (35, [10, 39])], [(19, [(0, 0), (1, 0), (2, 0), (3, 0), (4, 0), (5, 0), (6, 0), (7, 0), (8, 0), (9, 2)])]⟩ (bodyOf fn19) (aenv0 [a0, a1]) L (apost pr fn19.results.toList R) := by kernel_rfl
theorem s19 {a0 a1 : D} {L : List Bx} {R : AE → List Bx → Prop} (h : A19 a0 a1 L R) : ASpec pr 19 [a0, a1] L R :=
  aspec_of (A := ⟨[(6, [1]), (11, [18]), (17, [25]), (35, [10, 39])], [(19, [(0, 0), (1, 0), (2, 0), (3, 0), (4, 0), (5, 0), (6, 0), (7, 0), (8, 0), (9, 2)])]⟩) (fn := fn19) 2 mixed Tryz.func19 (by kernel_rfl) (by decide) rfl (by kernel_rfl) (by rw [A19_eq] at h; exact h)
noncomputable abbrev fn17 : Func := Tryz.f17
/- ashlar/subst.Free -/
def A17 (a0 a1 : D) (L : List Bx) (R : AE → List Bx → Prop) : Prop :=
abxv a0 L fun t2 w1 =>
abxv a1 w1 fun t3 w2 =>
aldN 4 t2 w2 fun t5 =>
acallW pr 59 [t5] w2 (apn R) fun t6 w3 =>
acallW pr 58 [t6, .fn 60 [] [t3]] w3 (apn R) fun t8 w4 =>
R (.ret t8) w4
theorem A17_eq : A17 = fun a0 a1 L R => aex pr ⟨[], []⟩ (bodyOf fn17) (aenv0 [a0, a1]) L (apost pr fn17.results.toList R) := by kernel_rfl
theorem s17 {a0 a1 : D} {L : List Bx} {R : AE → List Bx → Prop} (h : A17 a0 a1 L R) : ASpec pr 17 [a0, a1] L R :=
  aspec_of (A := ⟨[], []⟩) (fn := fn17) 2 mixed Tryz.func17 (by kernel_rfl) (by decide) rfl (by kernel_rfl) (by rw [A17_eq] at h; exact h)
noncomputable abbrev fn60 : Func := Tryz.f60
/- ashlar/subst.Free$1 -/
def A60 (a0 a1 : D) (L : List Bx) (R : AE → List Bx → Prop) : Prop :=
abxv a0 L fun t2 w1 =>
afld 0 t2 fun t4 =>
ald1 t4 w1 fun t5 =>
ald1 a1 w1 fun t6 =>
aar .eql t5 t6 fun t7 =>
R (.ret t7) w1
theorem A60_eq : A60 = fun a0 a1 L R => aex pr ⟨[], []⟩ (bodyOf fn60) (aenv0 [a0, a1]) L (apost pr fn60.results.toList R) := by kernel_rfl
theorem s60 {a0 a1 : D} {L : List Bx} {R : AE → List Bx → Prop} (h : A60 a0 a1 L R) : ASpec pr 60 [a0, a1] L R :=
  aspec_of (A := ⟨[], []⟩) (fn := fn60) 2 mixed Tryz.func60 (by kernel_rfl) (by decide) rfl (by kernel_rfl) (by rw [A60_eq] at h; exact h)
noncomputable abbrev fn53 : Func := Tryz.f53
/- (*ashlar/subst.putter).put -/
def A53 (a0 a1 : D) (L : List Bx) (R : AE → List Bx → Prop) : Prop :=
abxv a1 L fun t3 w1 =>
abx [.i 0, .s ⟨#[]⟩, .i 0, .nil] w1 fun t4 w2 =>
ajn (fun v9 w3 =>
anilc a0 fun t52 =>
afld 1 t52 fun t53 =>
ald1 t53 w3 fun t54 =>
aar .add t54 (.i 1) fun t55 =>
anilc a0 fun t56 =>
afld 1 t56 fun t57 =>
ast 1 t57 t55 w3 fun w4 =>
aldN 4 t3 w4 fun t58 =>
abx [.i 0, .s ⟨#[]⟩, .i 0, .nil] w4 fun t10 w5 =>
ast 4 t10 t58 w5 fun w6 =>
afld 3 t10 fun t59 =>
ast 1 t59 (.nil) w6 fun w7 =>
afld 3 t3 fun t60 =>
ald1 t60 w7 fun t61 =>
alenL t61 fun t62 =>
alp [.i 0] w7 fun v13 w8 k13 =>
aar .lss (aix v13 0) t62 fun t64 =>
acnd t64 (aidxS 4 t61 (aix v13 0) fun t65 =>
aldN 4 t65 w8 fun t66 =>
abx [.i 0, .s ⟨#[]⟩, .i 0, .nil] w8 fun t12 w9 =>
ast 4 t12 t66 w9 fun w10 =>
anilc a0 fun t68 =>
afld 1 t68 fun t69 =>
ald1 t69 w10 fun t70 =>
aar .gtr t70 (.i 2000) fun t71 =>
acnd t71 (aldN 4 t10 w10 fun t81 =>
ast 4 t4 t81 w10 fun w11 =>
aldN 4 t4 w11 fun r0 =>
R (.ret r0) w11) (afld 3 t10 fun t72 =>
∃ x, x ∈ w10 ∧ x.k = .box ∧
ald1 t72 ([x]) fun t73 =>
aldN 4 t12 w10 fun t75 =>
acallW pr 53 [a0, t75] w10 (apn R) fun t76 w12 =>
(∀ x ∈ w10, x.k = .box → x ∈ w12) ∧
abldF 4 1 [.i 0, .s ⟨#[]⟩, .i 0, .nil] [(0, 4, t76)] fun t77 =>
aapp 24 4 56 t73 t77 w12 fun t78 w13 =>
afld 3 t10 fun t79 =>
ast 1 t79 t78 w13 fun w14 =>
aar .add (aix v13 0) (.i 1) fun t80 =>
k13 [t80] w14)) (aldN 4 t10 w8 fun t81 =>
ast 4 t4 t81 w8 fun w15 =>
aldN 4 t4 w15 fun r0 =>
R (.ret r0) w15)) fun j9 =>
afld 1 t3 fun t13 =>
ald1 t13 w2 fun t14 =>
aar .neq t14 (.s ⟨#[]⟩) fun t15 =>
acnd t15 (aldN 4 t3 w2 fun t17 =>
acallW pr 12 [t17] w2 (apn R) fun t18 w16 =>
aext 0 t18 fun t19 =>
aext 1 t18 fun t20 =>
anilc a0 fun t23 =>
afld 0 t23 fun t24 =>
ald1 t24 w16 fun t25 =>
afld 1 t3 fun t26 =>
ald1 t26 w16 fun t27 =>
abld [.s ⟨#[]⟩, .i 0] [(0, 1, t27), (1, 1, t19)] fun t29 =>
alkM pr 103 true (.agg [.val (.int .i64 0), .val (.string ⟨#[]⟩), .val (.int .i64 0), .val (.slice none 0 0)]) t25 t29 w16 fun t30 =>
aext 0 t30 fun t31 =>
aext 1 t30 fun t32 =>
abx [.i 0, .s ⟨#[]⟩, .i 0, .nil] w16 fun t7 w17 =>
ast 4 t7 t31 w17 fun w18 =>
acnd t32 (anilc a0 fun t35 =>
afld 1 t35 fun t36 =>
ald1 t36 w18 fun t37 =>
abld [.val (.map none), .i 0] [(1, 1, t37)] fun t38 =>
abxv t38 w18 fun t39 w19 =>
aldN 4 t7 w19 fun t41 =>
acallW pr 53 [t39, t41] w19 (apn R) fun t42 w20 =>
ast 4 t7 t42 w20 fun w21 =>
anilc t39 fun t45 =>
afld 1 t45 fun t46 =>
ald1 t46 w21 fun t47 =>
anilc a0 fun t48 =>
afld 1 t48 fun t49 =>
ast 1 t49 t47 w21 fun w22 =>
aldN 4 t7 w22 fun t50 =>
ast 4 t4 t50 w22 fun w23 =>
aldN 4 t4 w23 fun r0 =>
R (.ret r0) w23) (j9 [] w18)) (j9 [] w2)
theorem A53_eq : A53 = fun a0 a1 L R => aex pr ⟨[(18, []), (27, [63])], [(3, [(0, 0), (1, 0), (2, 0), (3, 0), (4, 0), (5, 0), (6, 0), (7, 0), (8, 0), (9, 0), (10, 0), (11, 0), (12, 3), (13, 2), (14, 2)]), (16, [(0, 0), (1, 5), (2, 0), (3, 0), (4, 4), (5, 0), (6, 2), (7, 0), (8, 2)])]⟩ (bodyOf fn53) (aenv0 [a0, a1]) L (apost pr fn53.results.toList R) := by kernel_rfl
theorem s53 {a0 a1 : D} {L : List Bx} {R : AE → List Bx → Prop} (h : A53 a0 a1 L R) : ASpec pr 53 [a0, a1] L R :=
  aspec_of (A := ⟨[(18, []), (27, [63])], [(3, [(0, 0), (1, 0), (2, 0), (3, 0), (4, 0), (5, 0), (6, 0), (7, 0), (8, 0), (9, 0), (10, 0), (11, 0), (12, 3), (13, 2), (14, 2)]), (16, [(0, 0), (1, 5), (2, 0), (3, 0), (4, 4), (5, 0), (6, 2), (7, 0), (8, 2)])]⟩) (fn := fn53) 2 mixed Tryz.func53 (by kernel_rfl) (by decide) rfl (by kernel_rfl) (by rw [A53_eq] at h; exact h)
noncomputable abbrev fn52 : Func := Tryz.f52
/- slices.Backward[[]ashlar/api.Assign,ashlar/api.Assign] -/
def A52 (a0 : D) (L : List Bx) (R : AE → List Bx → Prop) : Prop :=
abxv a0 L fun t1 w1 =>
R (.ret (.fn 103 [] [t1])) w1
theorem A52_eq : A52 = fun a0 L R => aex pr ⟨[], []⟩ (bodyOf fn52) (aenv0 [a0]) L (apost pr fn52.results.toList R) := by kernel_rfl
theorem s52 {a0 : D} {L : List Bx} {R : AE → List Bx → Prop} (h : A52 a0 L R) : ASpec pr 52 [a0] L R :=
  aspec_of (A := ⟨[], []⟩) (fn := fn52) 1 mixed Tryz.func52 (by kernel_rfl) (by decide) rfl (by kernel_rfl) (by rw [A52_eq] at h; exact h)
noncomputable abbrev fn58 : Func := Tryz.f58
/- slices.ContainsFunc[[]ashlar/api.Assign,ashlar/api.Assign] -/
def A58 (a0 a1 : D) (L : List Bx) (R : AE → List Bx → Prop) : Prop :=
acallW pr 108 [a0, a1] L (apn R) fun t7 w1 =>
aar .geq t7 (.i 0) fun t8 =>
R (.ret t8) w1
theorem A58_eq : A58 = fun a0 a1 L R => aex pr ⟨[], []⟩ (bodyOf fn58) (aenv0 [a0, a1]) L (apost pr fn58.results.toList R) := by kernel_rfl
theorem s58 {a0 a1 : D} {L : List Bx} {R : AE → List Bx → Prop} (h : A58 a0 a1 L R) : ASpec pr 58 [a0, a1] L R :=
  aspec_of (A := ⟨[], []⟩) (fn := fn58) 2 mixed Tryz.func58 (by kernel_rfl) (by decide) rfl (by kernel_rfl) (by rw [A58_eq] at h; exact h)
noncomputable abbrev fn108 : Func := Tryz.f108
/- slices.IndexFunc[[]ashlar/api.Assign,ashlar/api.Assign] -/
def A108 (a0 a1 : D) (L : List Bx) (R : AE → List Bx → Prop) : Prop :=
alenL a0 fun t7 =>
alp [.i 0] L fun v2 w1 k2 =>
aar .lss (aix v2 0) t7 fun t9 =>
acnd t9 (aidxS 5 a0 (aix v2 0) fun t14 =>
aldN 5 t14 w1 fun t15 =>
acallF pr false a1 [t15] w1 (apn R) fun t16 w2 =>
acnd t16 (R (.ret (aix v2 0)) w2) (aar .add (aix v2 0) (.i 1) fun t18 =>
k2 [t18] w2)) (R (.ret (.i (-1))) w1)
theorem A108_eq : A108 = fun a0 a1 L R => aex pr ⟨[(5, [8])], []⟩ (bodyOf fn108) (aenv0 [a0, a1]) L (apost pr fn108.results.toList R) := by kernel_rfl
theorem s108 {a0 a1 : D} {L : List Bx} {R : AE → List Bx → Prop} (h : A108 a0 a1 L R) : ASpec pr 108 [a0, a1] L R :=
  aspec_of (A := ⟨[(5, [8])], []⟩) (fn := fn108) 2 mixed Tryz.func108 (by kernel_rfl) (by decide) rfl (by kernel_rfl) (by rw [A108_eq] at h; exact h)
noncomputable abbrev fn62 : Func := Tryz.f62
/- strconv.Itoa -/
def A62 (a0 : D) (L : List Bx) (R : AE → List Bx → Prop) : Prop :=
acallW pr 118 [a0] L (apn R) fun t4 w1 =>
R (.ret t4) w1
theorem A62_eq : A62 = fun a0 L R => aex pr ⟨[], []⟩ (bodyOf fn62) (aenv0 [a0]) L (apost pr fn62.results.toList R) := by kernel_rfl
theorem s62 {a0 : D} {L : List Bx} {R : AE → List Bx → Prop} (h : A62 a0 L R) : ASpec pr 62 [a0] L R :=
  aspec_of (A := ⟨[], []⟩) (fn := fn62) 1 mixed Tryz.func62 (by kernel_rfl) (by decide) rfl (by kernel_rfl) (by rw [A62_eq] at h; exact h)
noncomputable abbrev fn118 : Func := Tryz.f118
/- internal/strconv.Itoa -/
def A118 (a0 : D) (L : List Bx) (R : AE → List Bx → Prop) : Prop :=
acallW pr 163 [a0, .i 10] L (apn R) fun t4 w1 =>
R (.ret t4) w1
theorem A118_eq : A118 = fun a0 L R => aex pr ⟨[], []⟩ (bodyOf fn118) (aenv0 [a0]) L (apost pr fn118.results.toList R) := by kernel_rfl
theorem s118 {a0 : D} {L : List Bx} {R : AE → List Bx → Prop} (h : A118 a0 L R) : ASpec pr 118 [a0] L R :=
  aspec_of (A := ⟨[], []⟩) (fn := fn118) 1 mixed Tryz.func118 (by kernel_rfl) (by decide) rfl (by kernel_rfl) (by rw [A118_eq] at h; exact h)
noncomputable abbrev fn163 : Func := Tryz.f163
/- internal/strconv.FormatInt -/
def A163 (a0 a1 : D) (L : List Bx) (R : AE → List Bx → Prop) : Prop :=
aar .eql a1 (.i 10) fun t11 =>
acnd t11 (ajn (fun v4 w1 =>
abx (vals (reps 24 [.int .u8 0])) w1 fun t5 w2 =>
acvI .u64 a0 fun t21 =>
ajn (fun v8 w3 =>
acallW pr 202 [aix v8 0] w3 (apn R) fun t27 w4 =>
aar .add (.i 1) t27 fun t29 =>
False) fun j8 =>
aar .lss a0 (.i 0) fun t23 =>
acnd t23 (aneg t21 fun t25 =>
j8 [t25] w2) (j8 [t21] w2)) fun j4 =>
aar .leq (.i 0) a0 fun t13 =>
acnd t13 (aar .lss a0 (.i 100) fun t16 =>
acnd t16 (acallW pr 201 [a0] L (apn R) fun t19 w5 =>
R (.ret t19) w5) (j4 [] L)) (j4 [] L)) (acvI .u64 a0 fun t46 =>
aar .lss a0 (.i 0) fun t49 =>
acallW pr 204 [.nil, t46, a1, t49, .b false] L (apn R) fun t50 w6 =>
aext 0 t50 fun t51 =>
aext 1 t50 fun t52 =>
R (.ret t52) w6)
theorem A163_eq : A163 = fun a0 a1 L R => aex pr ⟨[(8, []), (16, [6])], []⟩ (bodyOf fn163) (aenv0 [a0, a1]) L (apost pr fn163.results.toList R) := by kernel_rfl
theorem s163 {a0 a1 : D} {L : List Bx} {R : AE → List Bx → Prop} (h : A163 a0 a1 L R) : ASpec pr 163 [a0, a1] L R :=
  aspec_of (A := ⟨[(8, []), (16, [6])], []⟩) (fn := fn163) 2 mixed Tryz.func163 (by kernel_rfl) (by decide) rfl (by kernel_rfl) (by rw [A163_eq] at h; exact h)
noncomputable abbrev fn201 : Func := Tryz.f201
/- internal/strconv.small -/
def A201 (a0 : D) (L : List Bx) (R : AE → List Bx → Prop) : Prop :=
aar .lss a0 (.i 10) fun t4 =>
acnd t4 (aar .add a0 (.i 1) fun t7 =>
aslcS (.s ⟨#[48, 49, 50, 51, 52, 53, 54, 55, 56, 57, 97, 98, 99, 100, 101, 102, 103, 104, 105, 106, 107, 108, 109, 110, 111, 112, 113, 114, 115, 116, 117, 118, 119, 120, 121, 122]⟩) (some a0) (some t7) fun t8 =>
R (.ret t8) L) (aar .mul a0 (.i 2) fun t10 =>
aar .mul a0 (.i 2) fun t12 =>
aar .add t12 (.i 2) fun t13 =>
aslcS (.s ⟨#[48, 48, 48, 49, 48, 50, 48, 51, 48, 52, 48, 53, 48, 54, 48, 55, 48, 56, 48, 57, 49, 48, 49, 49, 49, 50, 49, 51, 49, 52, 49, 53, 49, 54, 49, 55, 49, 56, 49, 57, 50, 48, 50, 49, 50, 50, 50, 51, 50, 52, 50, 53, 50, 54, 50, 55, 50, 56, 50, 57, 51, 48, 51, 49, 51, 50, 51, 51, 51, 52, 51, 53, 51, 54, 51, 55, 51, 56, 51, 57, 52, 48, 52, 49, 52, 50, 52, 51, 52, 52, 52, 53, 52, 54, 52, 55, 52, 56, 52, 57, 53, 48, 53, 49, 53, 50, 53, 51, 53, 52, 53, 53, 53, 54, 53, 55, 53, 56, 53, 57, 54, 48, 54, 49, 54, 50, 54, 51, 54, 52, 54, 53, 54, 54, 54, 55, 54, 56, 54, 57, 55, 48, 55, 49, 55, 50, 55, 51, 55, 52, 55, 53, 55, 54, 55, 55, 55, 56, 55, 57, 56, 48, 56, 49, 56, 50, 56, 51, 56, 52, 56, 53, 56, 54, 56, 55, 56, 56, 56, 57, 57, 48, 57, 49, 57, 50, 57, 51, 57, 52, 57, 53, 57, 54, 57, 55, 57, 56, 57, 57]⟩) (some t10) (some t13) fun t14 =>
R (.ret t14) L)
theorem A201_eq : A201 = fun a0 L R => aex pr ⟨[], []⟩ (bodyOf fn201) (aenv0 [a0]) L (apost pr fn201.results.toList R) := by kernel_rfl
theorem s201 {a0 : D} {L : List Bx} {R : AE → List Bx → Prop} (h : A201 a0 L R) : ASpec pr 201 [a0] L R :=
  aspec_of (A := ⟨[], []⟩) (fn := fn201) 1 mixed Tryz.func201 (by kernel_rfl) (by decide) rfl (by kernel_rfl) (by rw [A201_eq] at h; exact h)
noncomputable abbrev fn11 : Func := Tryz.f11
/- ashlar/ashlarlaw05.shown -/
def A11 (L : List Bx) (R : AE → List Bx → Prop) : Prop :=
abld [.i 0, .s ⟨#[]⟩, .i 0, .nil] [(0, 1, .i 2), (1, 1, .s ⟨#[120]⟩)] fun t8 =>
abx [.i 0, .s ⟨#[]⟩, .i 0, .nil] L fun t1 w1 =>
ast 4 t1 t8 w1 fun w2 =>
abld [.i 0, .s ⟨#[]⟩, .i 0, .nil] [(0, 1, .i 2), (1, 1, .s ⟨#[121]⟩)] fun t9 =>
abx [.i 0, .s ⟨#[]⟩, .i 0, .nil] w2 fun t2 w3 =>
ast 4 t2 t9 w3 fun w4 =>
aldN 4 t2 w4 fun t10 =>
abld [.i 0, .s ⟨#[]⟩, .i 0, .nil] [(0, 1, .i 1), (2, 1, .i 1)] fun t11 =>
abldS 24 4 2 [.i 0, .s ⟨#[]⟩, .i 0, .nil, .i 0, .s ⟨#[]⟩, .i 0, .nil] [(0, 4, t10), (4, 4, t11)] w4 fun t12 w5 =>
abld [.i 0, .s ⟨#[]⟩, .i 0, .nil] [(0, 1, .i 4), (3, 1, t12)] fun t13 =>
abx [.i 0, .s ⟨#[]⟩, .i 0, .nil] w5 fun t3 w6 =>
ast 4 t3 t13 w6 fun w7 =>
aldN 4 t1 w7 fun t15 =>
aldN 4 t3 w7 fun t16 =>
abld [.s ⟨#[]⟩, .i 0, .s ⟨#[]⟩, .i 0, .nil] [(0, 1, .s ⟨#[120]⟩), (1, 4, t16)] fun t17 =>
aldN 4 t1 w7 fun t18 =>
abld [.s ⟨#[]⟩, .i 0, .s ⟨#[]⟩, .i 0, .nil] [(0, 1, .s ⟨#[121]⟩), (1, 4, t18)] fun t19 =>
abldS 32 5 2 [.s ⟨#[]⟩, .i 0, .s ⟨#[]⟩, .i 0, .nil, .s ⟨#[]⟩, .i 0, .s ⟨#[]⟩, .i 0, .nil] [(0, 5, t17), (5, 5, t19)] w7 fun t20 w8 =>
acallW pr 14 [t15, t20] w8 (apn R) fun t21 w9 =>
aext 0 t21 fun t22 =>
aext 1 t21 fun t23 =>
abx [.i 0, .s ⟨#[]⟩, .i 0, .nil] w9 fun t4 w10 =>
ast 4 t4 t22 w10 fun w11 =>
aldN 4 t1 w11 fun t25 =>
abld [.i 0, .s ⟨#[]⟩, .i 0, .nil] [(0, 1, .i 16)] fun t26 =>
abld [.s ⟨#[]⟩, .i 0, .s ⟨#[]⟩, .i 0, .nil] [(0, 1, .s ⟨#[120]⟩), (1, 4, t26)] fun t27 =>
abldS 32 5 1 [.s ⟨#[]⟩, .i 0, .s ⟨#[]⟩, .i 0, .nil] [(0, 5, t27)] w11 fun t28 w12 =>
acallW pr 14 [t25, t28] w12 (apn R) fun t29 w13 =>
aext 0 t29 fun t30 =>
aext 1 t29 fun t31 =>
abx [.i 0, .s ⟨#[]⟩, .i 0, .nil] w13 fun t6 w14 =>
ast 4 t6 t30 w14 fun w15 =>
aar .eql t23 (.i 0) fun t33 =>
acnd t33 (aldN 4 t4 w15 fun t35 =>
aldN 4 t3 w15 fun t36 =>
acallW pr 16 [t35, t36] w15 (apn R) fun t37 w16 =>
acnd t37 (aar .eql t31 (.i 0) fun t41 =>
acnd t41 (aldN 4 t6 w16 fun t44 =>
aldN 4 t1 w16 fun t45 =>
acallW pr 16 [t44, t45] w16 (apn R) fun t46 w17 =>
acnd t46 (aldN 4 t3 w17 fun t49 =>
acallW pr 17 [t49, .s ⟨#[121]⟩] w17 (apn R) fun t50 w18 =>
acnd t50 (aldN 4 t3 w18 fun t53 =>
acallW pr 17 [t53, .s ⟨#[120]⟩] w18 (apn R) fun t54 w19 =>
anotb t54 fun t55 =>
acnd t55 (aldN 4 t1 w19 fun t58 =>
abldS 24 4 1 [.i 0, .s ⟨#[]⟩, .i 0, .nil] [(0, 4, t58)] w19 fun t59 w20 =>
acallW pr 19 [t59, .s ⟨#[120]⟩] w20 (apn R) fun t60 w21 =>
aar .eql t60 (.s ⟨#[120, 95, 48]⟩) fun t61 =>
acnd t61 (aldN 4 t1 w21 fun t64 =>
abldS 24 4 1 [.i 0, .s ⟨#[]⟩, .i 0, .nil] [(0, 4, t64)] w21 fun t65 w22 =>
acallW pr 19 [t65, .s ⟨#[121]⟩] w22 (apn R) fun t66 w23 =>
aar .eql t66 (.s ⟨#[121]⟩) fun t67 =>
R (.ret t67) w23) (R (.ret (.b false)) w21)) (R (.ret (.b false)) w19)) (R (.ret (.b false)) w18)) (R (.ret (.b false)) w17)) (R (.ret (.b false)) w16)) (R (.ret (.b false)) w16)) (R (.ret (.b false)) w15)
theorem A11_eq : A11 = fun  L R => aex pr ⟨[], []⟩ (bodyOf fn11) (aenv0 []) L (apost pr fn11.results.toList R) := by kernel_rfl
theorem s11 {L : List Bx} {R : AE → List Bx → Prop} (h : A11  L R) : ASpec pr 11 [] L R :=
  aspec_of (A := ⟨[], []⟩) (fn := fn11) 0 mixed Tryz.func11 (by kernel_rfl) (by decide) rfl (by kernel_rfl) (by rw [A11_eq] at h; exact h)
noncomputable abbrev fn13 : Func := Tryz.f13
/- ashlar/ashlarlaw05.small -/
def A13 (a0 : D) (L : List Bx) (R : AE → List Bx → Prop) : Prop :=
abxv a0 L fun t1 w1 =>
aldN 4 t1 w1 fun t6 =>
acallW pr 12 [t6] w1 (apn R) fun t7 w2 =>
aext 0 t7 fun t8 =>
aext 1 t7 fun t9 =>
aar .eql t9 (.i 0) fun t11 =>
acnd t11 (aldN 4 t1 w2 fun t13 =>
acallW pr 50 [t13] w2 (apn R) fun t14 w3 =>
aar .leq t14 (.i 200) fun t15 =>
acnd t15 (aldN 4 t1 w3 fun t18 =>
acallW pr 51 [t18] w3 (apn R) fun t19 w4 =>
aar .leq t19 (.i 20) fun t20 =>
R (.ret t20) w4) (R (.ret (.b false)) w3)) (R (.ret (.b false)) w2)
theorem A13_eq : A13 = fun a0 L R => aex pr ⟨[], []⟩ (bodyOf fn13) (aenv0 [a0]) L (apost pr fn13.results.toList R) := by kernel_rfl
theorem s13 {a0 : D} {L : List Bx} {R : AE → List Bx → Prop} (h : A13 a0 L R) : ASpec pr 13 [a0] L R :=
  aspec_of (A := ⟨[], []⟩) (fn := fn13) 1 mixed Tryz.func13 (by kernel_rfl) (by decide) rfl (by kernel_rfl) (by rw [A13_eq] at h; exact h)
noncomputable abbrev fn42 : Func := Tryz.f42
/- ashlar/ashlarlaw05.few -/
def A42 (a0 : D) (L : List Bx) (R : AE → List Bx → Prop) : Prop :=
alenL a0 fun t8 =>
amin2 t8 (.i 10) fun t9 =>
aslcL 5 a0 none (some t9) fun t10 =>
alp [.i 0] L fun v3 w1 k3 =>
alenL t10 fun t13 =>
aar .lss (aix v3 0) t13 fun t14 =>
acnd t14 (aidxS 5 t10 (aix v3 0) fun t19 =>
afld 1 t19 fun t20 =>
aldN 4 t20 w1 fun t21 =>
acallW pr 13 [t21] w1 (apn R) fun t22 w2 =>
anotb t22 fun t24 =>
acnd t24 (R (.ret (.tuple [.nil, .b false])) w2) (aar .add (aix v3 0) (.i 1) fun t16 =>
k3 [t16] w2)) (R (.ret (.tuple [t10, .b true])) w1)
theorem A42_eq : A42 = fun a0 L R => aex pr ⟨[(7, [4])], []⟩ (bodyOf fn42) (aenv0 [a0]) L (apost pr fn42.results.toList R) := by kernel_rfl
theorem s42 {a0 : D} {L : List Bx} {R : AE → List Bx → Prop} (h : A42 a0 L R) : ASpec pr 42 [a0] L R :=
  aspec_of (A := ⟨[(7, [4])], []⟩) (fn := fn42) 1 mixed Tryz.func42 (by kernel_rfl) (by decide) rfl (by kernel_rfl) (by rw [A42_eq] at h; exact h)
noncomputable abbrev fn3 : Func := Tryz.f3
/- ashlar/ashlarlaw05.SubstPuts -/
def A3 (a0 a1 a2 : D) (L : List Bx) (R : AE → List Bx → Prop) : Prop :=
abxv a0 L fun t3 w1 =>
acallW pr 11 [] w1 (apn R) fun t19 w2 =>
aldN 4 t3 w2 fun t21 =>
acallW pr 12 [t21] w2 (apn R) fun t22 w3 =>
aext 0 t22 fun t23 =>
aext 1 t22 fun t24 =>
aldN 4 t3 w3 fun t25 =>
acallW pr 13 [t25] w3 (apn R) fun t26 w4 =>
ajn (fun v6 w5 =>
alenL a1 fun t36 =>
amin2 t36 (.i 10) fun t37 =>
aslcL 5 a1 none (some t37) fun t38 =>
alp [.nil, .i 0] w5 fun v9 w6 k9 =>
alenL t38 fun t41 =>
aar .lss (aix v9 1) t41 fun t42 =>
acnd t42 (aidxS 5 t38 (aix v9 1) fun t48 =>
afld 1 t48 fun t49 =>
aldN 4 t49 w6 fun t50 =>
acallW pr 12 [t50] w6 (apn R) fun t51 w7 =>
aext 0 t51 fun t52 =>
aext 1 t51 fun t53 =>
aidxS 5 t38 (aix v9 1) fun t56 =>
afld 1 t56 fun t57 =>
aldN 4 t57 w7 fun t58 =>
acallW pr 13 [t58] w7 (apn R) fun t59 w8 =>
aar .eql t53 (.i 0) fun t61 =>
acnd t61 (anotb t59 fun t64 =>
acnd t64 (R (.ret t19) w8) (aidxS 5 t38 (aix v9 1) fun t70 =>
afld 1 t70 fun t71 =>
aldN 4 t71 w8 fun t72 =>
abldS 24 4 1 [.i 0, .s ⟨#[]⟩, .i 0, .nil] [(0, 4, t72)] w8 fun t73 w9 =>
aapp 24 4 56 (aix v9 0) t73 w9 fun t74 w10 =>
aar .add (aix v9 1) (.i 1) fun t44 =>
k9 [t74, t44] w10)) (aidxS 5 t38 (aix v9 1) fun t70 =>
afld 1 t70 fun t71 =>
aldN 4 t71 w8 fun t72 =>
abldS 24 4 1 [.i 0, .s ⟨#[]⟩, .i 0, .nil] [(0, 4, t72)] w8 fun t73 w11 =>
aapp 24 4 56 (aix v9 0) t73 w11 fun t74 w12 =>
aar .add (aix v9 1) (.i 1) fun t44 =>
k9 [t74, t44] w12)) (aldN 4 t3 w6 fun t76 =>
acallW pr 14 [t76, t38] w6 (apn R) fun t78 w13 =>
aext 0 t78 fun t79 =>
aext 1 t78 fun t80 =>
abx [.i 0, .s ⟨#[]⟩, .i 0, .nil] w13 fun t15 w14 =>
ast 4 t15 t79 w14 fun w15 =>
aldN 4 t3 w15 fun t82 =>
acallW pr 15 [t82, t38] w15 (apn R) fun t84 w16 =>
aext 0 t84 fun t85 =>
aext 1 t84 fun t86 =>
abx [.i 0, .s ⟨#[]⟩, .i 0, .nil] w16 fun t17 w17 =>
ast 4 t17 t85 w17 fun w18 =>
acnd t19 (aldN 4 t15 w18 fun t89 =>
aldN 4 t17 w18 fun t90 =>
acallS pr 16 [t89, t90] w18 (fun _ _ => False) fun t91 w19 =>
acnd t91 (aar .eql t80 t86 fun t96 =>
acnd t96 (aldN 4 t3 w19 fun t99 =>
acallS pr 17 [t99, a2] w19 (fun _ _ => False) fun t101 w20 =>
aldN 4 t3 w20 fun t102 =>
acallS pr 18 [t102, a2] w20 (fun _ _ => False) fun t104 w21 =>
aarB .eql t101 t104 fun t105 =>
acnd t105 (acallS pr 19 [aix v9 0, a2] w21 (fun _ _ => False) fun t110 w22 =>
acallS pr 20 [aix v9 0, a2] w22 (fun _ _ => False) fun t113 w23 =>
aar .eql t110 t113 fun t114 =>
R (.ret t114) w23) (R (.ret (.b false)) w21)) (R (.ret (.b false)) w19)) (R (.ret (.b false)) w19)) (R (.ret (.b false)) w18))) fun j6 =>
aar .eql t24 (.i 0) fun t28 =>
acnd t28 (anotb t26 fun t31 =>
acnd t31 (R (.ret t19) w4) (j6 [] w4)) (j6 [] w4)
theorem A3_eq : A3 = fun a0 a1 a2 L R => aex pr ⟨[(12, []), (19, [11, 12])], [(18, [(0, 0), (1, 0), (2, 0), (3, 0), (4, 0), (5, 0), (6, 0), (7, 0), (8, 0), (9, 0), (10, 0), (11, 0), (12, 0), (13, 0), (14, 0), (15, 0), (16, 0), (17, 0), (18, 0), (19, 0), (20, 0), (21, 0), (22, 0), (23, 0), (24, 0), (25, 0), (26, 0), (27, 0), (28, 0), (29, 2)])]⟩ (bodyOf fn3) (aenv0 [a0, a1, a2]) L (apost pr fn3.results.toList R) := by kernel_rfl
theorem s3 {a0 a1 a2 : D} {L : List Bx} {R : AE → List Bx → Prop} (h : A3 a0 a1 a2 L R) : ASpec pr 3 [a0, a1, a2] L R :=
  aspec_of (A := ⟨[(12, []), (19, [11, 12])], [(18, [(0, 0), (1, 0), (2, 0), (3, 0), (4, 0), (5, 0), (6, 0), (7, 0), (8, 0), (9, 0), (10, 0), (11, 0), (12, 0), (13, 0), (14, 0), (15, 0), (16, 0), (17, 0), (18, 0), (19, 0), (20, 0), (21, 0), (22, 0), (23, 0), (24, 0), (25, 0), (26, 0), (27, 0), (28, 0), (29, 2)])]⟩) (fn := fn3) 3 mixed Tryz.func3 (by kernel_rfl) (by decide) rfl (by kernel_rfl) (by rw [A3_eq] at h; exact h)
noncomputable abbrev fn10 : Func := Tryz.f10
/- ashlar/ashlarlaw05.SubstValues -/
def A10 (a0 a1 a2 : D) (L : List Bx) (R : AE → List Bx → Prop) : Prop :=
abxv a0 L fun t3 w1 =>
abxv a2 w1 fun t5 w2 =>
acallW pr 11 [] w2 (apn R) fun t20 w3 =>
aldN 4 t3 w3 fun t21 =>
acallW pr 13 [t21] w3 (apn R) fun t22 w4 =>
acallW pr 42 [a1] w4 (apn R) fun t25 w5 =>
aext 0 t25 fun t26 =>
aext 1 t25 fun t27 =>
ajn (fun v6 w6 =>
aldN 2 t5 w6 fun t46 =>
abx [.i 0, .nil] w6 fun t10 w7 =>
ast 2 t10 t46 w7 fun w8 =>
alenL t26 fun t48 =>
alp [t48] w8 fun v8 w9 k8 =>
aar .gtr (aix v8 0) (.i 0) fun t50 =>
acnd t50 (aar .sub (aix v8 0) (.i 1) fun t56 =>
aidxS 5 t26 t56 fun t57 =>
afld 1 t57 fun t58 =>
aldN 4 t58 w9 fun t59 =>
aldN 2 t5 w9 fun t60 =>
acallS pr 41 [t59, t60] w9 (fun _ _ => False) fun t61 w10 =>
aext 0 t61 fun t62 =>
aext 1 t61 fun t63 =>
abx [.i 0, .i 0, .b false, .nil] w10 fun t12 w11 =>
ast 4 t12 t62 w11 fun w12 =>
ajn (fun v13 w13 =>
aldN 2 t10 w13 fun t77 =>
aar .sub (aix v8 0) (.i 1) fun t80 =>
aidxS 5 t26 t80 fun t81 =>
afld 0 t81 fun t82 =>
ald1 t82 w13 fun t83 =>
aldN 4 t12 w13 fun t84 =>
acallS pr 45 [t77, t83, t84] w13 (fun _ _ => False) fun t85 w14 =>
ast 2 t10 t85 w14 fun w15 =>
aar .sub (aix v8 0) (.i 1) fun t52 =>
k8 [t52] w15) fun j13 =>
aar .neq t63 (.i 0) fun t65 =>
acnd t65 (R (.ret t20) w12) (aar .sub (aix v8 0) (.i 1) fun t69 =>
aidxS 5 t26 t69 fun t70 =>
afld 0 t70 fun t71 =>
ald1 t71 w12 fun t72 =>
acallW pr 44 [t72] w12 (apn R) fun t73 w16 =>
anotb t73 fun t74 =>
acnd t74 (R (.ret t20) w16) (j13 [] w16))) (aldN 4 t3 w9 fun t87 =>
acallW pr 14 [t87, t26] w9 (apn R) fun t89 w17 =>
aext 0 t89 fun t90 =>
aext 1 t89 fun t91 =>
abx [.i 0, .s ⟨#[]⟩, .i 0, .nil] w17 fun t14 w18 =>
ast 4 t14 t90 w18 fun w19 =>
aar .neq t91 (.i 0) fun t93 =>
acnd t93 (acnd t20 (aar .eql t91 (.i 7) fun t97 =>
R (.ret t97) w19) (R (.ret (.b false)) w19)) (aldN 4 t14 w19 fun t100 =>
aldN 2 t5 w19 fun t101 =>
acallW pr 41 [t100, t101] w19 (apn R) fun t102 w20 =>
aext 0 t102 fun t103 =>
aext 1 t102 fun t104 =>
abx [.i 0, .i 0, .b false, .nil] w20 fun t16 w21 =>
ast 4 t16 t103 w21 fun w22 =>
aldN 4 t3 w22 fun t106 =>
aldN 2 t10 w22 fun t107 =>
acallW pr 41 [t106, t107] w22 (apn R) fun t108 w23 =>
aext 0 t108 fun t109 =>
aext 1 t108 fun t110 =>
abx [.i 0, .i 0, .b false, .nil] w23 fun t18 w24 =>
ast 4 t18 t109 w24 fun w25 =>
acnd t20 (aldN 4 t16 w25 fun t113 =>
aldN 4 t18 w25 fun t114 =>
acallW pr 46 [t113, t114] w25 (apn R) fun t115 w26 =>
acnd t115 (aar .eql t104 t110 fun t120 =>
R (.ret t120) w26) (R (.ret (.b false)) w26)) (R (.ret (.b false)) w25)))) fun j6 =>
anotb t22 fun t29 =>
acnd t29 (R (.ret t20) w5) (anotb t27 fun t32 =>
acnd t32 (R (.ret t20) w5) (aldN 2 t5 w5 fun t35 =>
acallW pr 43 [t35] w5 (apn R) fun t36 w27 =>
anotb t36 fun t37 =>
acnd t37 (R (.ret t20) w27) (afld 1 t5 fun t40 =>
ald1 t40 w27 fun t41 =>
alenL t41 fun t42 =>
aar .gtr t42 (.i 40) fun t43 =>
acnd t43 (R (.ret t20) w27) (j6 [] w27))))
theorem A10_eq : A10 = fun a0 a1 a2 L R => aex pr ⟨[(12, []), (17, [11]), (26, [])], [(10, [(0, 0), (1, 0), (2, 0), (3, 0), (4, 0), (5, 0), (6, 0), (7, 0), (8, 0), (9, 0), (10, 0), (11, 3), (12, 2), (13, 2)]), (13, [(0, 0), (1, 0), (2, 0), (3, 0), (4, 0), (5, 0), (6, 0), (7, 0), (8, 0), (9, 2)])]⟩ (bodyOf fn10) (aenv0 [a0, a1, a2]) L (apost pr fn10.results.toList R) := by kernel_rfl
theorem s10 {a0 a1 a2 : D} {L : List Bx} {R : AE → List Bx → Prop} (h : A10 a0 a1 a2 L R) : ASpec pr 10 [a0, a1, a2] L R :=
  aspec_of (A := ⟨[(12, []), (17, [11]), (26, [])], [(10, [(0, 0), (1, 0), (2, 0), (3, 0), (4, 0), (5, 0), (6, 0), (7, 0), (8, 0), (9, 0), (10, 0), (11, 3), (12, 2), (13, 2)]), (13, [(0, 0), (1, 0), (2, 0), (3, 0), (4, 0), (5, 0), (6, 0), (7, 0), (8, 0), (9, 2)])]⟩) (fn := fn10) 3 mixed Tryz.func10 (by kernel_rfl) (by decide) rfl (by kernel_rfl) (by rw [A10_eq] at h; exact h)
noncomputable abbrev fn55 : Func := Tryz.f55
/- ashlar/ashlarref05.put -/
def A55 (a0 a1 : D) (L : List Bx) (R : AE → List Bx → Prop) : Prop :=
abxv a0 L fun t2 w1 =>
abx [.i 0, .s ⟨#[]⟩, .i 0, .nil] w1 fun t4 w2 =>
afld 0 t2 fun t13 =>
ald1 t13 w2 fun t14 =>
acallW pr 106 [t14] w2 (apn R) fun t15 w3 =>
acnd t15 (aldN 4 t2 w3 fun t18 =>
acallW pr 54 [t18] w3 (apn R) fun t19 w4 =>
aext 0 t19 fun t20 =>
aext 1 t19 fun t21 =>
alp [.i 0] w4 fun v5 w5 k5 =>
alenL a1 fun t24 =>
aar .lss (aix v5 0) t24 fun t25 =>
acnd t25 (aidxS 5 a1 (aix v5 0) fun t31 =>
afld 1 t31 fun t32 =>
aldN 4 t32 w5 fun t33 =>
acallW pr 54 [t33] w5 (apn R) fun t34 w6 =>
aext 0 t34 fun t35 =>
aext 1 t34 fun t36 =>
aidxS 5 a1 (aix v5 0) fun t39 =>
afld 0 t39 fun t40 =>
ald1 t40 w6 fun t41 =>
afld 1 t2 fun t42 =>
ald1 t42 w6 fun t43 =>
aar .eql t41 t43 fun t44 =>
acnd t44 (aar .eql t35 t20 fun t48 =>
acnd t48 (aidxS 5 a1 (aix v5 0) fun t52 =>
afld 1 t52 fun t53 =>
aldN 4 t53 w6 fun t54 =>
ast 4 t4 t54 w6 fun w7 =>
aldN 4 t4 w7 fun r0 =>
R (.ret r0) w7) (aar .add (aix v5 0) (.i 1) fun t27 =>
k5 [t27] w6)) (aar .add (aix v5 0) (.i 1) fun t27 =>
k5 [t27] w6)) (aldN 4 t2 w5 fun t55 =>
ast 4 t4 t55 w5 fun w8 =>
aldN 4 t4 w8 fun r0 =>
R (.ret r0) w8)) (afld 0 t2 fun t56 =>
ald1 t56 w3 fun t57 =>
afld 1 t2 fun t58 =>
ald1 t58 w3 fun t59 =>
afld 2 t2 fun t60 =>
ald1 t60 w3 fun t61 =>
abld [.i 0, .s ⟨#[]⟩, .i 0, .nil] [(0, 1, t57), (1, 1, t59), (2, 1, t61)] fun t62 =>
abx [.i 0, .s ⟨#[]⟩, .i 0, .nil] w3 fun t11 w9 =>
ast 4 t11 t62 w9 fun w10 =>
alp [.i 0] w10 fun v13 w11 k13 =>
afld 3 t2 fun t64 =>
ald1 t64 w11 fun t65 =>
alenL t65 fun t66 =>
aar .lss (aix v13 0) t66 fun t67 =>
acnd t67 (afld 3 t11 fun t70 =>
ald1 t70 w11 fun t71 =>
afld 3 t2 fun t72 =>
ald1 t72 w11 fun t73 =>
aidxS 4 t73 (aix v13 0) fun t75 =>
aldN 4 t75 w11 fun t76 =>
acallS pr 55 [t76, a1] w11 (fun _ _ => False) fun t78 w12 =>
abldF 4 1 [.i 0, .s ⟨#[]⟩, .i 0, .nil] [(0, 4, t78)] fun t79 =>
aapp 24 4 56 t71 t79 w12 fun t80 w13 =>
afld 3 t11 fun t81 =>
ast 1 t81 t80 w13 fun w14 =>
aar .add (aix v13 0) (.i 1) fun t69 =>
k13 [t69] w14) (aldN 4 t11 w11 fun t82 =>
ast 4 t4 t82 w11 fun w15 =>
aldN 4 t4 w15 fun r0 =>
R (.ret r0) w15))
theorem A55_eq : A55 = fun a0 a1 L R => aex pr ⟨[(11, [8]), (27, [12])], [(8, [(0, 0), (1, 0), (2, 0), (3, 0), (4, 0), (5, 0), (6, 0), (7, 0), (8, 0), (9, 0), (10, 0), (11, 0), (12, 0)]), (15, [(0, 0), (1, 0), (2, 0), (3, 0), (4, 0), (5, 0), (6, 0), (7, 0), (8, 0), (9, 0), (10, 2), (11, 0), (12, 2)])]⟩ (bodyOf fn55) (aenv0 [a0, a1]) L (apost pr fn55.results.toList R) := by kernel_rfl
theorem s55 {a0 a1 : D} {L : List Bx} {R : AE → List Bx → Prop} (h : A55 a0 a1 L R) : ASpec pr 55 [a0, a1] L R :=
  aspec_of (A := ⟨[(11, [8]), (27, [12])], [(8, [(0, 0), (1, 0), (2, 0), (3, 0), (4, 0), (5, 0), (6, 0), (7, 0), (8, 0), (9, 0), (10, 0), (11, 0), (12, 0)]), (15, [(0, 0), (1, 0), (2, 0), (3, 0), (4, 0), (5, 0), (6, 0), (7, 0), (8, 0), (9, 0), (10, 2), (11, 0), (12, 2)])]⟩) (fn := fn55) 2 mixed Tryz.func55 (by kernel_rfl) (by decide) rfl (by kernel_rfl) (by rw [A55_eq] at h; exact h)
noncomputable abbrev fn15 : Func := Tryz.f15
/- ashlar/ashlarref05.Put -/
def A15 (a0 a1 : D) (L : List Bx) (R : AE → List Bx → Prop) : Prop :=
abxv a0 L fun t2 w1 =>
abx [.i 0, .s ⟨#[]⟩, .i 0, .nil] w1 fun t4 w2 =>
aldN 4 t2 w2 fun t11 =>
acallW pr 54 [t11] w2 (apn R) fun t12 w3 =>
aext 0 t12 fun t13 =>
aext 1 t12 fun t14 =>
alp [t14, .i 0] w3 fun v3 w4 k3 =>
ajn (fun v5 w5 =>
aidxS 5 a1 (aix v3 1) fun t28 =>
afld 1 t28 fun t29 =>
aldN 4 t29 w5 fun t30 =>
acallW pr 54 [t30] w5 (apn R) fun t31 w6 =>
aext 0 t31 fun t32 =>
aext 1 t31 fun t33 =>
aar .add (aix v3 1) (.i 1) fun t24 =>
k3 [t33, t24] w6) fun j5 =>
alenL a1 fun t17 =>
aar .lss (aix v3 1) t17 fun t18 =>
acnd t18 (aar .eql (aix v3 0) (.i 0) fun t21 =>
acnd t21 (j5 [] w4) (aar .neq (aix v3 0) (.i 0) fun t35 =>
acnd t35 (abld [.i 0, .s ⟨#[]⟩, .i 0, .nil] [] fun t36 =>
ast 4 t4 t36 w4 fun w7 =>
aldN 4 t4 w7 fun r0 =>
R (.ret (.tuple [r0, aix v3 0])) w7) (aldN 4 t2 w4 fun t38 =>
acallW pr 55 [t38, a1] w4 (apn R) fun t40 w8 =>
abx [.i 0, .s ⟨#[]⟩, .i 0, .nil] w8 fun t9 w9 =>
ast 4 t9 t40 w9 fun w10 =>
aldN 4 t9 w10 fun t42 =>
acallW pr 54 [t42] w10 (apn R) fun t43 w11 =>
aext 0 t43 fun t44 =>
aext 1 t43 fun t45 =>
aar .neq t45 (.i 0) fun t47 =>
acnd t47 (abld [.i 0, .s ⟨#[]⟩, .i 0, .nil] [] fun t48 =>
ast 4 t4 t48 w11 fun w12 =>
aldN 4 t4 w12 fun r0 =>
R (.ret (.tuple [r0, t45])) w12) (aldN 4 t9 w11 fun t50 =>
ast 4 t4 t50 w11 fun w13 =>
aldN 4 t4 w13 fun r0 =>
R (.ret (.tuple [r0, .i 0])) w13)))) (aar .neq (aix v3 0) (.i 0) fun t35 =>
acnd t35 (abld [.i 0, .s ⟨#[]⟩, .i 0, .nil] [] fun t36 =>
ast 4 t4 t36 w4 fun w14 =>
aldN 4 t4 w14 fun r0 =>
R (.ret (.tuple [r0, aix v3 0])) w14) (aldN 4 t2 w4 fun t38 =>
acallW pr 55 [t38, a1] w4 (apn R) fun t40 w15 =>
abx [.i 0, .s ⟨#[]⟩, .i 0, .nil] w15 fun t9 w16 =>
ast 4 t9 t40 w16 fun w17 =>
aldN 4 t9 w17 fun t42 =>
acallW pr 54 [t42] w17 (apn R) fun t43 w18 =>
aext 0 t43 fun t44 =>
aext 1 t43 fun t45 =>
aar .neq t45 (.i 0) fun t47 =>
acnd t47 (abld [.i 0, .s ⟨#[]⟩, .i 0, .nil] [] fun t48 =>
ast 4 t4 t48 w18 fun w19 =>
aldN 4 t4 w19 fun r0 =>
R (.ret (.tuple [r0, t45])) w19) (aldN 4 t9 w18 fun t50 =>
ast 4 t4 t50 w18 fun w20 =>
aldN 4 t4 w20 fun r0 =>
R (.ret (.tuple [r0, .i 0])) w20)))
theorem A15_eq : A15 = fun a0 a1 L R => aex pr ⟨[(7, [7, 8]), (10, [])], []⟩ (bodyOf fn15) (aenv0 [a0, a1]) L (apost pr fn15.results.toList R) := by kernel_rfl
theorem s15 {a0 a1 : D} {L : List Bx} {R : AE → List Bx → Prop} (h : A15 a0 a1 L R) : ASpec pr 15 [a0, a1] L R :=
  aspec_of (A := ⟨[(7, [7, 8]), (10, [])], []⟩) (fn := fn15) 2 mixed Tryz.func15 (by kernel_rfl) (by decide) rfl (by kernel_rfl) (by rw [A15_eq] at h; exact h)
noncomputable abbrev fn18 : Func := Tryz.f18
/- ashlar/ashlarref05.Free -/
def A18 (a0 a1 : D) (L : List Bx) (R : AE → List Bx → Prop) : Prop :=
abxv a0 L fun t2 w1 =>
aldN 4 t2 w1 fun t7 =>
acallW pr 61 [t7] w1 (apn R) fun t8 w2 =>
alp [.i 0] w2 fun v3 w3 k3 =>
alenL t8 fun t11 =>
aar .lss (aix v3 0) t11 fun t12 =>
acnd t12 (aidxS 5 t8 (aix v3 0) fun t17 =>
afld 0 t17 fun t18 =>
ald1 t18 w3 fun t19 =>
aar .eql t19 a1 fun t21 =>
acnd t21 (R (.ret (.b true)) w3) (aar .add (aix v3 0) (.i 1) fun t14 =>
k3 [t14] w3)) (R (.ret (.b false)) w3)
theorem A18_eq : A18 = fun a0 a1 L R => aex pr ⟨[(7, [6])], []⟩ (bodyOf fn18) (aenv0 [a0, a1]) L (apost pr fn18.results.toList R) := by kernel_rfl
theorem s18 {a0 a1 : D} {L : List Bx} {R : AE → List Bx → Prop} (h : A18 a0 a1 L R) : ASpec pr 18 [a0, a1] L R :=
  aspec_of (A := ⟨[(7, [6])], []⟩) (fn := fn18) 2 mixed Tryz.func18 (by kernel_rfl) (by decide) rfl (by kernel_rfl) (by rw [A18_eq] at h; exact h)
noncomputable abbrev fn20 : Func := Tryz.f20
/- ashlar/ashlarref05.Fresh -/
def A20 (a0 a1 : D) (L : List Bx) (R : AE → List Bx → Prop) : Prop :=
acallW pr 63 [a1] L (apn R) fun t12 w1 =>
ajn (fun v4 w2 =>
alp [aix v4 0, .i 0] w2 fun v6 w3 k6 =>
aar .lss (aix v6 1) (.i 100) fun t17 =>
acnd t17 (alp [.b false, .i 0] w3 fun v10 w4 k10 =>
alenL a0 fun t22 =>
aar .lss (aix v10 1) t22 fun t23 =>
acnd t23 (acnd (aix v10 0) (aar .add (aix v10 1) (.i 1) fun t25 =>
k10 [.b true, t25] w4) (aidxS 4 a0 (aix v10 1) fun t30 =>
aldN 4 t30 w4 fun t31 =>
acallW pr 18 [t31, aix v6 0] w4 (apn R) fun t33 w5 =>
aar .add (aix v10 1) (.i 1) fun t25 =>
k10 [t33, t25] w5)) (anotb (aix v10 0) fun t36 =>
acnd t36 (R (.ret (aix v6 0)) w4) (aar .rem (aix v6 1) (.i 10) fun t39 =>
aar .add (.i 48) t39 fun t40 =>
acvI .u8 t40 fun t41 =>
abldS 5 1 1 [.val (.int .u8 0)] [(0, 1, t41)] w4 fun t42 w6 =>
acvB t42 fun t43 =>
aar .geq (aix v6 1) (.i 10) fun t45 =>
acnd t45 (aar .quo (aix v6 1) (.i 10) fun t47 =>
aar .add (.i 48) t47 fun t48 =>
acvI .u8 t48 fun t49 =>
abldS 5 1 1 [.val (.int .u8 0)] [(0, 1, t49)] w6 fun t50 w7 =>
acvB t50 fun t51 =>
aar .add t51 t43 fun t53 =>
alenS (aix v4 0) fun t56 =>
amin2 t56 (.i 13) fun t57 =>
aslcS (aix v4 0) none (some t57) fun t58 =>
aar .add t58 (.s ⟨#[95]⟩) fun t59 =>
aar .add t59 t53 fun t61 =>
aar .add (aix v6 1) (.i 1) fun t19 =>
k6 [t61, t19] w7) (alenS (aix v4 0) fun t56 =>
amin2 t56 (.i 13) fun t57 =>
aslcS (aix v4 0) none (some t57) fun t58 =>
aar .add t58 (.s ⟨#[95]⟩) fun t59 =>
aar .add t59 t43 fun t61 =>
aar .add (aix v6 1) (.i 1) fun t19 =>
k6 [t61, t19] w6)))) (R (.ret (aix v6 0)) w3)) fun j4 =>
anotb t12 fun t14 =>
acnd t14 (j4 [.s ⟨#[120]⟩] w1) (j4 [a1] w1)
theorem A20_eq : A20 = fun a0 a1 L R => aex pr ⟨[(8, [1]), (13, [6, 7]), (21, [8, 9])], []⟩ (bodyOf fn20) (aenv0 [a0, a1]) L (apost pr fn20.results.toList R) := by kernel_rfl
theorem s20 {a0 a1 : D} {L : List Bx} {R : AE → List Bx → Prop} (h : A20 a0 a1 L R) : ASpec pr 20 [a0, a1] L R :=
  aspec_of (A := ⟨[(8, [1]), (13, [6, 7]), (21, [8, 9])], []⟩) (fn := fn20) 2 mixed Tryz.func20 (by kernel_rfl) (by decide) rfl (by kernel_rfl) (by rw [A20_eq] at h; exact h)
end Go.Proofs.YtaigilchnadmpaaGreatDoor
