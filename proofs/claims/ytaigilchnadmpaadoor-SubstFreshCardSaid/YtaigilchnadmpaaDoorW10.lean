/- What must hold ahead of a call, function by function: printed by a program. -/
import Derived.Test.YtaigilchnadmpaaDoorW9
import Derived.KernelRfl
set_option maxRecDepth 100000
set_option linter.unusedVariables false
namespace Go.Proofs.YtaigilchnadmpaaDoor
open Go Go.V
noncomputable abbrev fn8 : Func := Tryd.f8
/- ashlar/subst.Fresh -/
def A8 (a0 a1 : D) (L : List Bx) (R : AE → List Bx → Prop) : Prop :=
ajn (fun v3 w1 =>
amkM w1 fun t15 w2 =>
alenL a0 fun t17 =>
alp [.i 0] w2 fun v5 w3 k5 =>
aar .lss (aix v5 0) t17 fun t19 =>
acnd t19 (aidxS 4 a0 (aix v5 0) fun t20 =>
aldN 4 t20 w3 fun t21 =>
abx [.i 0, .s ⟨#[]⟩, .i 0, .nil] w3 fun t7 w4 =>
ast 4 t7 t21 w4 fun w5 =>
aldN 4 t7 w5 fun t22 =>
acallW pr 11 [t22] w5 (apn R) fun t23 w6 =>
alenL t23 fun t24 =>
alp [.i 0] w6 fun v8 w7 k8 =>
aar .lss (aix v8 0) t24 fun t26 =>
acnd t26 (aidxS 5 t23 (aix v8 0) fun t27 =>
aldN 5 t27 w7 fun t28 =>
abx [.s ⟨#[]⟩, .i 0, .s ⟨#[]⟩, .i 0, .nil] w7 fun t9 w8 =>
ast 5 t9 t28 w8 fun w9 =>
afld 0 t9 fun t30 =>
ald1 t30 w9 fun t31 =>
aupM pr 9 t15 t31 (.b true) w9 fun w10 =>
aar .add (aix v8 0) (.i 1) fun t32 =>
k8 [t32] w10) (aar .add (aix v5 0) (.i 1) fun t33 =>
k5 [t33] w7)) (alkM pr 9 false (.b false) t15 (aix v3 0) w3 fun t36 =>
anotb t36 fun t37 =>
acnd t37 (R (.ret (aix v3 0)) w3) (alp [.s ⟨#[]⟩, .i 0] w3 fun v17 w11 k17 =>
aar .lss (aix v17 1) (.i 100) fun t40 =>
acnd t40 (alenS (aix v3 0) fun t44 =>
amin2 t44 (.i 13) fun t45 =>
aslcS (aix v3 0) none (some t45) fun t46 =>
aar .add t46 (.s ⟨#[95]⟩) fun t47 =>
acallS pr 17 [aix v17 1] w11 (fun _ _ => False) fun t49 w12 =>
aar .add t47 t49 fun t50 =>
alkM pr 9 false (.b false) t15 t50 w12 fun t53 =>
anotb t53 fun t54 =>
acnd t54 (R (.ret t50) w12) (aar .add (aix v17 1) (.i 1) fun t55 =>
k17 [t50, t55] w12)) (R (.ret (aix v17 0)) w11)))) fun j3 =>
acallW pr 15 [a1] L (apn R) fun t13 w13 =>
anotb t13 fun t14 =>
acnd t14 (j3 [.s ⟨#[120]⟩] w13) (j3 [a1] w13)
theorem A8_eq : A8 = fun a0 a1 L R => aex pr ⟨[(6, [1]), (11, [18]), (17, [25]), (35, [10, 39])], [(19, [(0, 0), (1, 0), (2, 0), (3, 0), (4, 0), (5, 0), (6, 0), (7, 0), (8, 0), (9, 2)])]⟩ (bodyOf fn8) (aenv0 [a0, a1]) L (apost pr fn8.results.toList R) := by kernel_rfl
theorem s8 {a0 a1 : D} {L : List Bx} {R : AE → List Bx → Prop} (h : A8 a0 a1 L R) : ASpec pr 8 [a0, a1] L R :=
  aspec_of (A := ⟨[(6, [1]), (11, [18]), (17, [25]), (35, [10, 39])], [(19, [(0, 0), (1, 0), (2, 0), (3, 0), (4, 0), (5, 0), (6, 0), (7, 0), (8, 0), (9, 2)])]⟩) (fn := fn8) 2 mixed Tryd.func8 (by kernel_rfl) (by decide) rfl (by kernel_rfl) (by rw [A8_eq] at h; exact h)
noncomputable abbrev fn9 : Func := Tryd.f9
/- ashlar/subst.Free -/
def A9 (a0 a1 : D) (L : List Bx) (R : AE → List Bx → Prop) : Prop :=
abxv a0 L fun t2 w1 =>
abxv a1 w1 fun t3 w2 =>
aldN 4 t2 w2 fun t5 =>
acallW pr 11 [t5] w2 (apn R) fun t6 w3 =>
acallW pr 18 [t6, .fn 19 [] [t3]] w3 (apn R) fun t8 w4 =>
R (.ret t8) w4
theorem A9_eq : A9 = fun a0 a1 L R => aex pr ⟨[], []⟩ (bodyOf fn9) (aenv0 [a0, a1]) L (apost pr fn9.results.toList R) := by kernel_rfl
theorem s9 {a0 a1 : D} {L : List Bx} {R : AE → List Bx → Prop} (h : A9 a0 a1 L R) : ASpec pr 9 [a0, a1] L R :=
  aspec_of (A := ⟨[], []⟩) (fn := fn9) 2 mixed Tryd.func9 (by kernel_rfl) (by decide) rfl (by kernel_rfl) (by rw [A9_eq] at h; exact h)
noncomputable abbrev fn19 : Func := Tryd.f19
/- ashlar/subst.Free$1 -/
def A19 (a0 a1 : D) (L : List Bx) (R : AE → List Bx → Prop) : Prop :=
abxv a0 L fun t2 w1 =>
afld 0 t2 fun t4 =>
ald1 t4 w1 fun t5 =>
ald1 a1 w1 fun t6 =>
aar .eql t5 t6 fun t7 =>
R (.ret t7) w1
theorem A19_eq : A19 = fun a0 a1 L R => aex pr ⟨[], []⟩ (bodyOf fn19) (aenv0 [a0, a1]) L (apost pr fn19.results.toList R) := by kernel_rfl
theorem s19 {a0 a1 : D} {L : List Bx} {R : AE → List Bx → Prop} (h : A19 a0 a1 L R) : ASpec pr 19 [a0, a1] L R :=
  aspec_of (A := ⟨[], []⟩) (fn := fn19) 2 mixed Tryd.func19 (by kernel_rfl) (by decide) rfl (by kernel_rfl) (by rw [A19_eq] at h; exact h)
noncomputable abbrev fn21 : Func := Tryd.f21
/- (*ashlar/subst.putter).put -/
def A21 (a0 a1 : D) (L : List Bx) (R : AE → List Bx → Prop) : Prop :=
abxv a1 L fun t3 w1 =>
abx [.i 0, .s ⟨#[]⟩, .i 0, .nil] w1 fun t4 w2 =>
ajn (fun v9 w3 =>
anilc a0 fun t52 =>
afld 1 t52 fun t53 =>
ald1 t53 w3 fun t54 =>
aar .add t54 (.i 1) fun t55 =>
anilc a0 fun t56 =>
afld 1 t56 fun t57 =>
ast 1 t57 t55 w3 fun w4 =>
aldN 4 t3 w4 fun t58 =>
abx [.i 0, .s ⟨#[]⟩, .i 0, .nil] w4 fun t10 w5 =>
ast 4 t10 t58 w5 fun w6 =>
afld 3 t10 fun t59 =>
ast 1 t59 (.nil) w6 fun w7 =>
afld 3 t3 fun t60 =>
ald1 t60 w7 fun t61 =>
alenL t61 fun t62 =>
alp [.i 0] w7 fun v13 w8 k13 =>
aar .lss (aix v13 0) t62 fun t64 =>
acnd t64 (aidxS 4 t61 (aix v13 0) fun t65 =>
aldN 4 t65 w8 fun t66 =>
abx [.i 0, .s ⟨#[]⟩, .i 0, .nil] w8 fun t12 w9 =>
ast 4 t12 t66 w9 fun w10 =>
anilc a0 fun t68 =>
afld 1 t68 fun t69 =>
ald1 t69 w10 fun t70 =>
aar .gtr t70 (.i 2000) fun t71 =>
acnd t71 (aldN 4 t10 w10 fun t81 =>
ast 4 t4 t81 w10 fun w11 =>
aldN 4 t4 w11 fun r0 =>
R (.ret r0) w11) (afld 3 t10 fun t72 =>
∃ x, x ∈ w10 ∧ x.k = .box ∧
ald1 t72 ([x]) fun t73 =>
aldN 4 t12 w10 fun t75 =>
acallW pr 21 [a0, t75] w10 (apn R) fun t76 w12 =>
(∀ x ∈ w10, x.k = .box → x ∈ w12) ∧
abldF 4 1 [.i 0, .s ⟨#[]⟩, .i 0, .nil] [(0, 4, t76)] fun t77 =>
aapp 24 4 56 t73 t77 w12 fun t78 w13 =>
afld 3 t10 fun t79 =>
ast 1 t79 t78 w13 fun w14 =>
aar .add (aix v13 0) (.i 1) fun t80 =>
k13 [t80] w14)) (aldN 4 t10 w8 fun t81 =>
ast 4 t4 t81 w8 fun w15 =>
aldN 4 t4 w15 fun r0 =>
R (.ret r0) w15)) fun j9 =>
afld 1 t3 fun t13 =>
ald1 t13 w2 fun t14 =>
aar .neq t14 (.s ⟨#[]⟩) fun t15 =>
acnd t15 (aldN 4 t3 w2 fun t17 =>
acallW pr 14 [t17] w2 (apn R) fun t18 w16 =>
aext 0 t18 fun t19 =>
aext 1 t18 fun t20 =>
anilc a0 fun t23 =>
afld 0 t23 fun t24 =>
ald1 t24 w16 fun t25 =>
afld 1 t3 fun t26 =>
ald1 t26 w16 fun t27 =>
abld [.s ⟨#[]⟩, .i 0] [(0, 1, t27), (1, 1, t19)] fun t29 =>
alkM pr 53 true (.agg [.val (.int .i64 0), .val (.string ⟨#[]⟩), .val (.int .i64 0), .val (.slice none 0 0)]) t25 t29 w16 fun t30 =>
aext 0 t30 fun t31 =>
aext 1 t30 fun t32 =>
abx [.i 0, .s ⟨#[]⟩, .i 0, .nil] w16 fun t7 w17 =>
ast 4 t7 t31 w17 fun w18 =>
acnd t32 (anilc a0 fun t35 =>
afld 1 t35 fun t36 =>
ald1 t36 w18 fun t37 =>
abld [.val (.map none), .i 0] [(1, 1, t37)] fun t38 =>
abxv t38 w18 fun t39 w19 =>
aldN 4 t7 w19 fun t41 =>
acallW pr 21 [t39, t41] w19 (apn R) fun t42 w20 =>
ast 4 t7 t42 w20 fun w21 =>
anilc t39 fun t45 =>
afld 1 t45 fun t46 =>
ald1 t46 w21 fun t47 =>
anilc a0 fun t48 =>
afld 1 t48 fun t49 =>
ast 1 t49 t47 w21 fun w22 =>
aldN 4 t7 w22 fun t50 =>
ast 4 t4 t50 w22 fun w23 =>
aldN 4 t4 w23 fun r0 =>
R (.ret r0) w23) (j9 [] w18)) (j9 [] w2)
theorem A21_eq : A21 = fun a0 a1 L R => aex pr ⟨[(18, []), (27, [63])], [(3, [(0, 0), (1, 0), (2, 0), (3, 0), (4, 0), (5, 0), (6, 0), (7, 0), (8, 0), (9, 0), (10, 0), (11, 0), (12, 3), (13, 2), (14, 2)]), (16, [(0, 0), (1, 5), (2, 0), (3, 0), (4, 4), (5, 0), (6, 2), (7, 0), (8, 2)])]⟩ (bodyOf fn21) (aenv0 [a0, a1]) L (apost pr fn21.results.toList R) := by kernel_rfl
theorem s21 {a0 a1 : D} {L : List Bx} {R : AE → List Bx → Prop} (h : A21 a0 a1 L R) : ASpec pr 21 [a0, a1] L R :=
  aspec_of (A := ⟨[(18, []), (27, [63])], [(3, [(0, 0), (1, 0), (2, 0), (3, 0), (4, 0), (5, 0), (6, 0), (7, 0), (8, 0), (9, 0), (10, 0), (11, 0), (12, 3), (13, 2), (14, 2)]), (16, [(0, 0), (1, 5), (2, 0), (3, 0), (4, 4), (5, 0), (6, 2), (7, 0), (8, 2)])]⟩) (fn := fn21) 2 mixed Tryd.func21 (by kernel_rfl) (by decide) rfl (by kernel_rfl) (by rw [A21_eq] at h; exact h)
noncomputable abbrev fn20 : Func := Tryd.f20
/- slices.Backward[[]ashlar/api.Assign,ashlar/api.Assign] -/
def A20 (a0 : D) (L : List Bx) (R : AE → List Bx → Prop) : Prop :=
abxv a0 L fun t1 w1 =>
R (.ret (.fn 41 [] [t1])) w1
theorem A20_eq : A20 = fun a0 L R => aex pr ⟨[], []⟩ (bodyOf fn20) (aenv0 [a0]) L (apost pr fn20.results.toList R) := by kernel_rfl
theorem s20 {a0 : D} {L : List Bx} {R : AE → List Bx → Prop} (h : A20 a0 L R) : ASpec pr 20 [a0] L R :=
  aspec_of (A := ⟨[], []⟩) (fn := fn20) 1 mixed Tryd.func20 (by kernel_rfl) (by decide) rfl (by kernel_rfl) (by rw [A20_eq] at h; exact h)
noncomputable abbrev fn18 : Func := Tryd.f18
/- slices.ContainsFunc[[]ashlar/api.Assign,ashlar/api.Assign] -/
def A18 (a0 a1 : D) (L : List Bx) (R : AE → List Bx → Prop) : Prop :=
acallW pr 40 [a0, a1] L (apn R) fun t7 w1 =>
aar .geq t7 (.i 0) fun t8 =>
R (.ret t8) w1
theorem A18_eq : A18 = fun a0 a1 L R => aex pr ⟨[], []⟩ (bodyOf fn18) (aenv0 [a0, a1]) L (apost pr fn18.results.toList R) := by kernel_rfl
theorem s18 {a0 a1 : D} {L : List Bx} {R : AE → List Bx → Prop} (h : A18 a0 a1 L R) : ASpec pr 18 [a0, a1] L R :=
  aspec_of (A := ⟨[], []⟩) (fn := fn18) 2 mixed Tryd.func18 (by kernel_rfl) (by decide) rfl (by kernel_rfl) (by rw [A18_eq] at h; exact h)
noncomputable abbrev fn40 : Func := Tryd.f40
/- slices.IndexFunc[[]ashlar/api.Assign,ashlar/api.Assign] -/
def A40 (a0 a1 : D) (L : List Bx) (R : AE → List Bx → Prop) : Prop :=
alenL a0 fun t7 =>
alp [.i 0] L fun v2 w1 k2 =>
aar .lss (aix v2 0) t7 fun t9 =>
acnd t9 (aidxS 5 a0 (aix v2 0) fun t14 =>
aldN 5 t14 w1 fun t15 =>
acallF pr false a1 [t15] w1 (apn R) fun t16 w2 =>
acnd t16 (R (.ret (aix v2 0)) w2) (aar .add (aix v2 0) (.i 1) fun t18 =>
k2 [t18] w2)) (R (.ret (.i (-1))) w1)
theorem A40_eq : A40 = fun a0 a1 L R => aex pr ⟨[(5, [8])], []⟩ (bodyOf fn40) (aenv0 [a0, a1]) L (apost pr fn40.results.toList R) := by kernel_rfl
theorem s40 {a0 a1 : D} {L : List Bx} {R : AE → List Bx → Prop} (h : A40 a0 a1 L R) : ASpec pr 40 [a0, a1] L R :=
  aspec_of (A := ⟨[(5, [8])], []⟩) (fn := fn40) 2 mixed Tryd.func40 (by kernel_rfl) (by decide) rfl (by kernel_rfl) (by rw [A40_eq] at h; exact h)
noncomputable abbrev fn17 : Func := Tryd.f17
/- strconv.Itoa -/
def A17 (a0 : D) (L : List Bx) (R : AE → List Bx → Prop) : Prop :=
acallW pr 39 [a0] L (apn R) fun t4 w1 =>
R (.ret t4) w1
theorem A17_eq : A17 = fun a0 L R => aex pr ⟨[], []⟩ (bodyOf fn17) (aenv0 [a0]) L (apost pr fn17.results.toList R) := by kernel_rfl
theorem s17 {a0 : D} {L : List Bx} {R : AE → List Bx → Prop} (h : A17 a0 L R) : ASpec pr 17 [a0] L R :=
  aspec_of (A := ⟨[], []⟩) (fn := fn17) 1 mixed Tryd.func17 (by kernel_rfl) (by decide) rfl (by kernel_rfl) (by rw [A17_eq] at h; exact h)
noncomputable abbrev fn39 : Func := Tryd.f39
/- internal/strconv.Itoa -/
def A39 (a0 : D) (L : List Bx) (R : AE → List Bx → Prop) : Prop :=
acallW pr 56 [a0, .i 10] L (apn R) fun t4 w1 =>
R (.ret t4) w1
theorem A39_eq : A39 = fun a0 L R => aex pr ⟨[], []⟩ (bodyOf fn39) (aenv0 [a0]) L (apost pr fn39.results.toList R) := by kernel_rfl
theorem s39 {a0 : D} {L : List Bx} {R : AE → List Bx → Prop} (h : A39 a0 L R) : ASpec pr 39 [a0] L R :=
  aspec_of (A := ⟨[], []⟩) (fn := fn39) 1 mixed Tryd.func39 (by kernel_rfl) (by decide) rfl (by kernel_rfl) (by rw [A39_eq] at h; exact h)
noncomputable abbrev fn56 : Func := Tryd.f56
/- internal/strconv.FormatInt -/
def A56 (a0 a1 : D) (L : List Bx) (R : AE → List Bx → Prop) : Prop :=
aar .eql a1 (.i 10) fun t11 =>
acnd t11 (ajn (fun v4 w1 =>
abx (vals (reps 24 [.int .u8 0])) w1 fun t5 w2 =>
acvI .u64 a0 fun t21 =>
ajn (fun v8 w3 =>
acallW pr 73 [aix v8 0] w3 (apn R) fun t27 w4 =>
aar .add (.i 1) t27 fun t29 =>
False) fun j8 =>
aar .lss a0 (.i 0) fun t23 =>
acnd t23 (aneg t21 fun t25 =>
j8 [t25] w2) (j8 [t21] w2)) fun j4 =>
aar .leq (.i 0) a0 fun t13 =>
acnd t13 (aar .lss a0 (.i 100) fun t16 =>
acnd t16 (acallW pr 72 [a0] L (apn R) fun t19 w5 =>
R (.ret t19) w5) (j4 [] L)) (j4 [] L)) (acvI .u64 a0 fun t46 =>
aar .lss a0 (.i 0) fun t49 =>
acallW pr 75 [.nil, t46, a1, t49, .b false] L (apn R) fun t50 w6 =>
aext 0 t50 fun t51 =>
aext 1 t50 fun t52 =>
R (.ret t52) w6)
theorem A56_eq : A56 = fun a0 a1 L R => aex pr ⟨[(8, []), (16, [6])], []⟩ (bodyOf fn56) (aenv0 [a0, a1]) L (apost pr fn56.results.toList R) := by kernel_rfl
theorem s56 {a0 a1 : D} {L : List Bx} {R : AE → List Bx → Prop} (h : A56 a0 a1 L R) : ASpec pr 56 [a0, a1] L R :=
  aspec_of (A := ⟨[(8, []), (16, [6])], []⟩) (fn := fn56) 2 mixed Tryd.func56 (by kernel_rfl) (by decide) rfl (by kernel_rfl) (by rw [A56_eq] at h; exact h)
noncomputable abbrev fn72 : Func := Tryd.f72
/- internal/strconv.small -/
def A72 (a0 : D) (L : List Bx) (R : AE → List Bx → Prop) : Prop :=
aar .lss a0 (.i 10) fun t4 =>
acnd t4 (aar .add a0 (.i 1) fun t7 =>
aslcS (.s ⟨#[48, 49, 50, 51, 52, 53, 54, 55, 56, 57, 97, 98, 99, 100, 101, 102, 103, 104, 105, 106, 107, 108, 109, 110, 111, 112, 113, 114, 115, 116, 117, 118, 119, 120, 121, 122]⟩) (some a0) (some t7) fun t8 =>
R (.ret t8) L) (aar .mul a0 (.i 2) fun t10 =>
aar .mul a0 (.i 2) fun t12 =>
aar .add t12 (.i 2) fun t13 =>
aslcS (.s ⟨#[48, 48, 48, 49, 48, 50, 48, 51, 48, 52, 48, 53, 48, 54, 48, 55, 48, 56, 48, 57, 49, 48, 49, 49, 49, 50, 49, 51, 49, 52, 49, 53, 49, 54, 49, 55, 49, 56, 49, 57, 50, 48, 50, 49, 50, 50, 50, 51, 50, 52, 50, 53, 50, 54, 50, 55, 50, 56, 50, 57, 51, 48, 51, 49, 51, 50, 51, 51, 51, 52, 51, 53, 51, 54, 51, 55, 51, 56, 51, 57, 52, 48, 52, 49, 52, 50, 52, 51, 52, 52, 52, 53, 52, 54, 52, 55, 52, 56, 52, 57, 53, 48, 53, 49, 53, 50, 53, 51, 53, 52, 53, 53, 53, 54, 53, 55, 53, 56, 53, 57, 54, 48, 54, 49, 54, 50, 54, 51, 54, 52, 54, 53, 54, 54, 54, 55, 54, 56, 54, 57, 55, 48, 55, 49, 55, 50, 55, 51, 55, 52, 55, 53, 55, 54, 55, 55, 55, 56, 55, 57, 56, 48, 56, 49, 56, 50, 56, 51, 56, 52, 56, 53, 56, 54, 56, 55, 56, 56, 56, 57, 57, 48, 57, 49, 57, 50, 57, 51, 57, 52, 57, 53, 57, 54, 57, 55, 57, 56, 57, 57]⟩) (some t10) (some t13) fun t14 =>
R (.ret t14) L)
theorem A72_eq : A72 = fun a0 L R => aex pr ⟨[], []⟩ (bodyOf fn72) (aenv0 [a0]) L (apost pr fn72.results.toList R) := by kernel_rfl
theorem s72 {a0 : D} {L : List Bx} {R : AE → List Bx → Prop} (h : A72 a0 L R) : ASpec pr 72 [a0] L R :=
  aspec_of (A := ⟨[], []⟩) (fn := fn72) 1 mixed Tryd.func72 (by kernel_rfl) (by decide) rfl (by kernel_rfl) (by rw [A72_eq] at h; exact h)
noncomputable abbrev fn6 : Func := Tryd.f6
/- ashlar/ashlarlaw05.shown -/
def A6 (L : List Bx) (R : AE → List Bx → Prop) : Prop :=
abld [.i 0, .s ⟨#[]⟩, .i 0, .nil] [(0, 1, .i 2), (1, 1, .s ⟨#[120]⟩)] fun t8 =>
abx [.i 0, .s ⟨#[]⟩, .i 0, .nil] L fun t1 w1 =>
ast 4 t1 t8 w1 fun w2 =>
abld [.i 0, .s ⟨#[]⟩, .i 0, .nil] [(0, 1, .i 2), (1, 1, .s ⟨#[121]⟩)] fun t9 =>
abx [.i 0, .s ⟨#[]⟩, .i 0, .nil] w2 fun t2 w3 =>
ast 4 t2 t9 w3 fun w4 =>
aldN 4 t2 w4 fun t10 =>
abld [.i 0, .s ⟨#[]⟩, .i 0, .nil] [(0, 1, .i 1), (2, 1, .i 1)] fun t11 =>
abldS 24 4 2 [.i 0, .s ⟨#[]⟩, .i 0, .nil, .i 0, .s ⟨#[]⟩, .i 0, .nil] [(0, 4, t10), (4, 4, t11)] w4 fun t12 w5 =>
abld [.i 0, .s ⟨#[]⟩, .i 0, .nil] [(0, 1, .i 4), (3, 1, t12)] fun t13 =>
abx [.i 0, .s ⟨#[]⟩, .i 0, .nil] w5 fun t3 w6 =>
ast 4 t3 t13 w6 fun w7 =>
aldN 4 t1 w7 fun t15 =>
aldN 4 t3 w7 fun t16 =>
abld [.s ⟨#[]⟩, .i 0, .s ⟨#[]⟩, .i 0, .nil] [(0, 1, .s ⟨#[120]⟩), (1, 4, t16)] fun t17 =>
aldN 4 t1 w7 fun t18 =>
abld [.s ⟨#[]⟩, .i 0, .s ⟨#[]⟩, .i 0, .nil] [(0, 1, .s ⟨#[121]⟩), (1, 4, t18)] fun t19 =>
abldS 33 5 2 [.s ⟨#[]⟩, .i 0, .s ⟨#[]⟩, .i 0, .nil, .s ⟨#[]⟩, .i 0, .s ⟨#[]⟩, .i 0, .nil] [(0, 5, t17), (5, 5, t19)] w7 fun t20 w8 =>
acallW pr 10 [t15, t20] w8 (apn R) fun t21 w9 =>
aext 0 t21 fun t22 =>
aext 1 t21 fun t23 =>
abx [.i 0, .s ⟨#[]⟩, .i 0, .nil] w9 fun t4 w10 =>
ast 4 t4 t22 w10 fun w11 =>
aldN 4 t1 w11 fun t25 =>
abld [.i 0, .s ⟨#[]⟩, .i 0, .nil] [(0, 1, .i 16)] fun t26 =>
abld [.s ⟨#[]⟩, .i 0, .s ⟨#[]⟩, .i 0, .nil] [(0, 1, .s ⟨#[120]⟩), (1, 4, t26)] fun t27 =>
abldS 33 5 1 [.s ⟨#[]⟩, .i 0, .s ⟨#[]⟩, .i 0, .nil] [(0, 5, t27)] w11 fun t28 w12 =>
acallW pr 10 [t25, t28] w12 (apn R) fun t29 w13 =>
aext 0 t29 fun t30 =>
aext 1 t29 fun t31 =>
abx [.i 0, .s ⟨#[]⟩, .i 0, .nil] w13 fun t6 w14 =>
ast 4 t6 t30 w14 fun w15 =>
aar .eql t23 (.i 0) fun t33 =>
acnd t33 (aldN 4 t4 w15 fun t35 =>
aldN 4 t3 w15 fun t36 =>
acallW pr 12 [t35, t36] w15 (apn R) fun t37 w16 =>
acnd t37 (aar .eql t31 (.i 0) fun t41 =>
acnd t41 (aldN 4 t6 w16 fun t44 =>
aldN 4 t1 w16 fun t45 =>
acallW pr 12 [t44, t45] w16 (apn R) fun t46 w17 =>
acnd t46 (aldN 4 t3 w17 fun t49 =>
acallW pr 9 [t49, .s ⟨#[121]⟩] w17 (apn R) fun t50 w18 =>
acnd t50 (aldN 4 t3 w18 fun t53 =>
acallW pr 9 [t53, .s ⟨#[120]⟩] w18 (apn R) fun t54 w19 =>
anotb t54 fun t55 =>
acnd t55 (aldN 4 t1 w19 fun t58 =>
abldS 24 4 1 [.i 0, .s ⟨#[]⟩, .i 0, .nil] [(0, 4, t58)] w19 fun t59 w20 =>
acallW pr 8 [t59, .s ⟨#[120]⟩] w20 (apn R) fun t60 w21 =>
aar .eql t60 (.s ⟨#[120, 95, 48]⟩) fun t61 =>
acnd t61 (aldN 4 t1 w21 fun t64 =>
abldS 24 4 1 [.i 0, .s ⟨#[]⟩, .i 0, .nil] [(0, 4, t64)] w21 fun t65 w22 =>
acallW pr 8 [t65, .s ⟨#[121]⟩] w22 (apn R) fun t66 w23 =>
aar .eql t66 (.s ⟨#[121]⟩) fun t67 =>
R (.ret t67) w23) (R (.ret (.b false)) w21)) (R (.ret (.b false)) w19)) (R (.ret (.b false)) w18)) (R (.ret (.b false)) w17)) (R (.ret (.b false)) w16)) (R (.ret (.b false)) w16)) (R (.ret (.b false)) w15)
theorem A6_eq : A6 = fun  L R => aex pr ⟨[], []⟩ (bodyOf fn6) (aenv0 []) L (apost pr fn6.results.toList R) := by kernel_rfl
theorem s6 {L : List Bx} {R : AE → List Bx → Prop} (h : A6  L R) : ASpec pr 6 [] L R :=
  aspec_of (A := ⟨[], []⟩) (fn := fn6) 0 mixed Tryd.func6 (by kernel_rfl) (by decide) rfl (by kernel_rfl) (by rw [A6_eq] at h; exact h)
noncomputable abbrev fn7 : Func := Tryd.f7
/- ashlar/ashlarlaw05.small -/
def A7 (a0 : D) (L : List Bx) (R : AE → List Bx → Prop) : Prop :=
abxv a0 L fun t1 w1 =>
aldN 4 t1 w1 fun t6 =>
acallW pr 14 [t6] w1 (apn R) fun t7 w2 =>
aext 0 t7 fun t8 =>
aext 1 t7 fun t9 =>
aar .eql t9 (.i 0) fun t11 =>
acnd t11 (aldN 4 t1 w2 fun t13 =>
acallW pr 13 [t13] w2 (apn R) fun t14 w3 =>
aar .leq t14 (.i 200) fun t15 =>
acnd t15 (aldN 4 t1 w3 fun t18 =>
acallW pr 16 [t18] w3 (apn R) fun t19 w4 =>
aar .leq t19 (.i 20) fun t20 =>
R (.ret t20) w4) (R (.ret (.b false)) w3)) (R (.ret (.b false)) w2)
theorem A7_eq : A7 = fun a0 L R => aex pr ⟨[], []⟩ (bodyOf fn7) (aenv0 [a0]) L (apost pr fn7.results.toList R) := by kernel_rfl
theorem s7 {a0 : D} {L : List Bx} {R : AE → List Bx → Prop} (h : A7 a0 L R) : ASpec pr 7 [a0] L R :=
  aspec_of (A := ⟨[], []⟩) (fn := fn7) 1 mixed Tryd.func7 (by kernel_rfl) (by decide) rfl (by kernel_rfl) (by rw [A7_eq] at h; exact h)
noncomputable abbrev fn3 : Func := Tryd.f3
/- ashlar/ashlarlaw05.SubstNone -/
def A3 (a0 a1 a2 : D) (L : List Bx) (R : AE → List Bx → Prop) : Prop :=
abxv a0 L fun t3 w1 =>
acallW pr 6 [] w1 (apn R) fun t20 w2 =>
aldN 4 t3 w2 fun t21 =>
acallW pr 7 [t21] w2 (apn R) fun t22 w3 =>
anotb t22 fun t24 =>
acnd t24 (R (.ret t20) w3) (aldN 4 t3 w3 fun t26 =>
abldS 24 4 1 [.i 0, .s ⟨#[]⟩, .i 0, .nil] [(0, 4, t26)] w3 fun t27 w4 =>
acallW pr 8 [t27, a1] w4 (apn R) fun t29 w5 =>
aldN 4 t3 w5 fun t30 =>
acallW pr 9 [t30, t29] w5 (apn R) fun t32 w6 =>
acnd t32 (R (.ret t20) w6) (aldN 4 t3 w6 fun t35 =>
abld [.i 0, .s ⟨#[]⟩, .i 0, .nil] [(0, 1, .i 1), (2, 1, a2)] fun t38 =>
abld [.s ⟨#[]⟩, .i 0, .s ⟨#[]⟩, .i 0, .nil] [(0, 1, t29), (1, 4, t38)] fun t39 =>
abld [.i 0, .s ⟨#[]⟩, .i 0, .nil] [(0, 1, .i 8)] fun t41 =>
abld [.s ⟨#[]⟩, .i 0, .s ⟨#[]⟩, .i 0, .nil] [(0, 1, t29), (1, 4, t41)] fun t42 =>
abldS 33 5 2 [.s ⟨#[]⟩, .i 0, .s ⟨#[]⟩, .i 0, .nil, .s ⟨#[]⟩, .i 0, .s ⟨#[]⟩, .i 0, .nil] [(0, 5, t39), (5, 5, t42)] w6 fun t43 w7 =>
acallW pr 10 [t35, t43] w7 (apn R) fun t44 w8 =>
aext 0 t44 fun t45 =>
aext 1 t44 fun t46 =>
abx [.i 0, .s ⟨#[]⟩, .i 0, .nil] w8 fun t10 w9 =>
ast 4 t10 t45 w9 fun w10 =>
aldN 4 t3 w10 fun t48 =>
aldN 4 t3 w10 fun t49 =>
acallS pr 11 [t49] w10 (fun _ _ => False) fun t50 w11 =>
acallS pr 10 [t48, t50] w11 (fun _ _ => False) fun t51 w12 =>
aext 0 t51 fun t52 =>
aext 1 t51 fun t53 =>
abx [.i 0, .s ⟨#[]⟩, .i 0, .nil] w12 fun t12 w13 =>
ast 4 t12 t52 w13 fun w14 =>
abld [.i 0, .s ⟨#[]⟩, .i 0, .nil] [(0, 1, .i 1), (2, 1, a2)] fun t56 =>
abld [.s ⟨#[]⟩, .i 0, .s ⟨#[]⟩, .i 0, .nil] [(0, 1, a1), (1, 4, t56)] fun t57 =>
abld [.i 0, .s ⟨#[]⟩, .i 0, .nil] [(0, 1, .i 9)] fun t59 =>
abld [.s ⟨#[]⟩, .i 0, .s ⟨#[]⟩, .i 0, .nil] [(0, 1, a1), (1, 4, t59)] fun t60 =>
abld [.i 0, .s ⟨#[]⟩, .i 0, .nil] [(0, 1, .i 17)] fun t62 =>
abld [.s ⟨#[]⟩, .i 0, .s ⟨#[]⟩, .i 0, .nil] [(0, 1, a1), (1, 4, t62)] fun t63 =>
abldS 33 5 3 [.s ⟨#[]⟩, .i 0, .s ⟨#[]⟩, .i 0, .nil, .s ⟨#[]⟩, .i 0, .s ⟨#[]⟩, .i 0, .nil, .s ⟨#[]⟩, .i 0, .s ⟨#[]⟩, .i 0, .nil] [(0, 5, t57), (5, 5, t60), (10, 5, t63)] w14 fun t64 w15 =>
aldN 4 t3 w15 fun t66 =>
acallW pr 10 [t66, t64] w15 (apn R) fun t68 w16 =>
aext 0 t68 fun t69 =>
aext 1 t68 fun t70 =>
abx [.i 0, .s ⟨#[]⟩, .i 0, .nil] w16 fun t15 w17 =>
ast 4 t15 t69 w17 fun w18 =>
aldN 4 t3 w18 fun t71 =>
acallW pr 11 [t71] w18 (apn R) fun t72 w19 =>
alp [.b false, .i 0] w19 fun v15 w20 k15 =>
alenL t72 fun t75 =>
aar .lss (aix v15 1) t75 fun t76 =>
acnd t76 (acnd (aix v15 0) (aar .add (aix v15 1) (.i 1) fun t78 =>
k15 [.b true, t78] w20) (aidxS 5 t72 (aix v15 1) fun t83 =>
afld 1 t83 fun t84 =>
afld 0 t84 fun t85 =>
ald1 t85 w20 fun t86 =>
aar .eql t86 (.i 14) fun t87 =>
ajn (fun y96 w21 =>
aar .add (aix v15 1) (.i 1) fun t78 =>
k15 [aix y96 0, t78] w21) fun j96 =>
acnd t87 (aidxS 5 t72 (aix v15 1) fun t91 =>
afld 0 t91 fun t92 =>
ald1 t92 w20 fun t93 =>
aar .eql t93 a1 fun t95 =>
j96 [t95] w20) (j96 [.b false] w20))) (acnd t20 (aar .eql t46 (.i 0) fun t101 =>
acnd t101 (aldN 4 t10 w20 fun t104 =>
aldN 4 t3 w20 fun t105 =>
acallS pr 12 [t104, t105] w20 (fun _ _ => False) fun t106 w22 =>
acnd t106 (aar .eql t53 (.i 0) fun t110 =>
acnd t110 (aldN 4 t12 w22 fun t113 =>
aldN 4 t3 w22 fun t114 =>
acallS pr 12 [t113, t114] w22 (fun _ _ => False) fun t115 w23 =>
acnd t115 (aar .eql t70 (.i 0) fun t119 =>
acnd t119 (aldN 4 t15 w23 fun t122 =>
acallS pr 9 [t122, a1] w23 (fun _ _ => False) fun t124 w24 =>
aarB .eql t124 (aix v15 0) fun t126 =>
acnd t126 (aldN 4 t15 w24 fun t129 =>
acallS pr 13 [t129] w24 (fun _ _ => False) fun t130 w25 =>
aldN 4 t3 w25 fun t131 =>
acallS pr 13 [t131] w25 (fun _ _ => False) fun t132 w26 =>
aar .eql t130 t132 fun t133 =>
R (.ret t133) w26) (R (.ret (.b false)) w24)) (R (.ret (.b false)) w23)) (R (.ret (.b false)) w23)) (R (.ret (.b false)) w22)) (R (.ret (.b false)) w22)) (R (.ret (.b false)) w20)) (R (.ret (.b false)) w20))))
theorem A3_eq : A3 = fun a0 a1 a2 L R => aex pr ⟨[(31, [17, 19]), (3000096, [])], [(9, [(0, 0), (1, 0), (2, 0), (3, 0), (4, 0), (5, 0), (6, 0), (7, 3), (8, 2), (9, 2)]), (18, [(0, 0), (1, 0), (2, 0), (3, 0), (4, 0), (5, 0), (6, 0), (7, 0), (8, 0), (9, 0), (10, 0), (11, 0), (12, 0), (13, 0), (14, 0), (15, 0), (16, 0), (17, 0), (18, 0), (19, 0), (20, 0), (21, 0), (22, 0), (23, 0), (24, 0), (25, 0), (26, 0), (27, 0), (28, 0), (29, 0), (30, 0), (31, 0), (32, 0), (33, 0), (34, 0), (35, 0), (36, 0), (37, 2)])]⟩ (bodyOf fn3) (aenv0 [a0, a1, a2]) L (apost pr fn3.results.toList R) := by kernel_rfl
theorem s3 {a0 a1 a2 : D} {L : List Bx} {R : AE → List Bx → Prop} (h : A3 a0 a1 a2 L R) : ASpec pr 3 [a0, a1, a2] L R :=
  aspec_of (A := ⟨[(31, [17, 19]), (3000096, [])], [(9, [(0, 0), (1, 0), (2, 0), (3, 0), (4, 0), (5, 0), (6, 0), (7, 3), (8, 2), (9, 2)]), (18, [(0, 0), (1, 0), (2, 0), (3, 0), (4, 0), (5, 0), (6, 0), (7, 0), (8, 0), (9, 0), (10, 0), (11, 0), (12, 0), (13, 0), (14, 0), (15, 0), (16, 0), (17, 0), (18, 0), (19, 0), (20, 0), (21, 0), (22, 0), (23, 0), (24, 0), (25, 0), (26, 0), (27, 0), (28, 0), (29, 0), (30, 0), (31, 0), (32, 0), (33, 0), (34, 0), (35, 0), (36, 0), (37, 2)])]⟩) (fn := fn3) 3 mixed Tryd.func3 (by kernel_rfl) (by decide) rfl (by kernel_rfl) (by rw [A3_eq] at h; exact h)
noncomputable abbrev fn4 : Func := Tryd.f4
/- ashlar/ashlarlaw05.SubstTwice -/
def A4 (a0 a1 a2 : D) (L : List Bx) (R : AE → List Bx → Prop) : Prop :=
abxv a0 L fun t3 w1 =>
abxv a1 w1 fun t4 w2 =>
abxv a2 w2 fun t5 w3 =>
acallW pr 6 [] w3 (apn R) fun t25 w4 =>
aldN 4 t3 w4 fun t26 =>
acallW pr 7 [t26] w4 (apn R) fun t27 w5 =>
aldN 4 t4 w5 fun t28 =>
acallW pr 7 [t28] w5 (apn R) fun t29 w6 =>
aldN 4 t5 w6 fun t30 =>
acallW pr 7 [t30] w6 (apn R) fun t31 w7 =>
aldN 4 t4 w7 fun t33 =>
acallW pr 14 [t33] w7 (apn R) fun t34 w8 =>
aext 0 t34 fun t35 =>
aext 1 t34 fun t36 =>
aldN 4 t5 w8 fun t38 =>
acallW pr 14 [t38] w8 (apn R) fun t39 w9 =>
aext 0 t39 fun t40 =>
aext 1 t39 fun t41 =>
ajn (fun v9 w10 =>
aldN 4 t4 w10 fun t61 =>
abld [.s ⟨#[]⟩, .i 0, .s ⟨#[]⟩, .i 0, .nil] [(0, 1, .s ⟨#[120]⟩), (1, 4, t61)] fun t62 =>
abldS 33 5 1 [.s ⟨#[]⟩, .i 0, .s ⟨#[]⟩, .i 0, .nil] [(0, 5, t62)] w10 fun t63 w11 =>
aldN 4 t5 w11 fun t64 =>
abld [.s ⟨#[]⟩, .i 0, .s ⟨#[]⟩, .i 0, .nil] [(0, 1, .s ⟨#[121]⟩), (1, 4, t64)] fun t65 =>
abldS 33 5 1 [.s ⟨#[]⟩, .i 0, .s ⟨#[]⟩, .i 0, .nil] [(0, 5, t65)] w11 fun t66 w12 =>
aldN 4 t3 w12 fun t68 =>
acallW pr 10 [t68, t63] w12 (apn R) fun t70 w13 =>
aext 0 t70 fun t71 =>
aext 1 t70 fun t72 =>
abx [.i 0, .s ⟨#[]⟩, .i 0, .nil] w13 fun t17 w14 =>
ast 4 t17 t71 w14 fun w15 =>
aar .neq t72 (.i 0) fun t74 =>
acnd t74 (acnd t25 (aar .eql t72 (.i 7) fun t78 =>
R (.ret t78) w15) (R (.ret (.b false)) w15)) (aldN 4 t17 w15 fun t81 =>
acallW pr 10 [t81, t66] w15 (apn R) fun t83 w16 =>
aext 0 t83 fun t84 =>
aext 1 t83 fun t85 =>
abx [.i 0, .s ⟨#[]⟩, .i 0, .nil] w16 fun t19 w17 =>
ast 4 t19 t84 w17 fun w18 =>
aldN 4 t4 w18 fun t87 =>
acallW pr 10 [t87, t66] w18 (apn R) fun t89 w19 =>
aext 0 t89 fun t90 =>
aext 1 t89 fun t91 =>
abx [.i 0, .s ⟨#[]⟩, .i 0, .nil] w19 fun t21 w20 =>
ast 4 t21 t90 w20 fun w21 =>
ajn (fun v18 w22 =>
aldN 4 t3 w22 fun t100 =>
aldN 4 t21 w22 fun t101 =>
abld [.s ⟨#[]⟩, .i 0, .s ⟨#[]⟩, .i 0, .nil] [(0, 1, .s ⟨#[120]⟩), (1, 4, t101)] fun t102 =>
aldN 4 t5 w22 fun t103 =>
abld [.s ⟨#[]⟩, .i 0, .s ⟨#[]⟩, .i 0, .nil] [(0, 1, .s ⟨#[121]⟩), (1, 4, t103)] fun t104 =>
abldS 33 5 2 [.s ⟨#[]⟩, .i 0, .s ⟨#[]⟩, .i 0, .nil, .s ⟨#[]⟩, .i 0, .s ⟨#[]⟩, .i 0, .nil] [(0, 5, t102), (5, 5, t104)] w22 fun t105 w23 =>
acallW pr 10 [t100, t105] w23 (apn R) fun t106 w24 =>
aext 0 t106 fun t107 =>
aext 1 t106 fun t108 =>
abx [.i 0, .s ⟨#[]⟩, .i 0, .nil] w24 fun t23 w25 =>
ast 4 t23 t107 w25 fun w26 =>
acnd t25 (aar .eql t108 (.i 0) fun t112 =>
acnd t112 (aldN 4 t19 w26 fun t115 =>
aldN 4 t23 w26 fun t116 =>
acallW pr 12 [t115, t116] w26 (apn R) fun t117 w27 =>
R (.ret t117) w27) (R (.ret (.b false)) w26)) (R (.ret (.b false)) w26)) fun j18 =>
aar .neq t85 (.i 0) fun t93 =>
acnd t93 (R (.ret t25) w21) (aar .neq t91 (.i 0) fun t96 =>
acnd t96 (R (.ret t25) w21) (j18 [] w21)))) fun j9 =>
anotb t27 fun t43 =>
acnd t43 (R (.ret t25) w9) (anotb t29 fun t46 =>
acnd t46 (R (.ret t25) w9) (anotb t31 fun t50 =>
acnd t50 (R (.ret t25) w9) (aar .neq t35 (.i 1) fun t54 =>
acnd t54 (R (.ret t25) w9) (aar .neq t40 (.i 1) fun t58 =>
acnd t58 (R (.ret t25) w9) (j9 [] w9)))))
theorem A4_eq : A4 = fun a0 a1 a2 L R => aex pr ⟨[(18, []), (36, [])], []⟩ (bodyOf fn4) (aenv0 [a0, a1, a2]) L (apost pr fn4.results.toList R) := by kernel_rfl
theorem s4 {a0 a1 a2 : D} {L : List Bx} {R : AE → List Bx → Prop} (h : A4 a0 a1 a2 L R) : ASpec pr 4 [a0, a1, a2] L R :=
  aspec_of (A := ⟨[(18, []), (36, [])], []⟩) (fn := fn4) 3 mixed Tryd.func4 (by kernel_rfl) (by decide) rfl (by kernel_rfl) (by rw [A4_eq] at h; exact h)
noncomputable abbrev fn5 : Func := Tryd.f5
/- ashlar/ashlarlaw05.SubstFresh -/
def A5 (a0 a1 : D) (L : List Bx) (R : AE → List Bx → Prop) : Prop :=
acallW pr 6 [] L (apn R) fun t14 w1 =>
alenL a0 fun t17 =>
amin2 t17 (.i 10) fun t18 =>
aslcL 4 a0 none (some t18) fun t19 =>
alp [.i 0, .i 0] w1 fun v5 w2 k5 =>
alenL t19 fun t22 =>
aar .lss (aix v5 1) t22 fun t23 =>
acnd t23 (aidxS 4 t19 (aix v5 1) fun t28 =>
aldN 4 t28 w2 fun t29 =>
acallW pr 7 [t29] w2 (apn R) fun t30 w3 =>
anotb t30 fun t32 =>
acnd t32 (R (.ret t14) w3) (aidxS 4 t19 (aix v5 1) fun t37 =>
aldN 4 t37 w3 fun t38 =>
acallW pr 11 [t38] w3 (apn R) fun t39 w4 =>
alenL t39 fun t40 =>
aar .add (aix v5 0) t40 fun t41 =>
aar .add (aix v5 1) (.i 1) fun t25 =>
k5 [t41, t25] w4)) (acallW pr 8 [t19, a1] w2 (apn R) fun t44 w5 =>
acallW pr 15 [a1] w5 (apn R) fun t47 w6 =>
ajn (fun v16 w7 =>
alenS (aix v16 0) fun t51 =>
amin2 t51 (.i 13) fun t52 =>
ajn (fun v19 w8 =>
alp [.i 0] w8 fun v20 w9 k20 =>
alenL t19 fun t73 =>
aar .lss (aix v20 0) t73 fun t74 =>
acnd t74 (aar .lss (aix v5 0) (.i 100) fun t77 =>
acnd t77 (aidxS 4 t19 (aix v20 0) fun t83 =>
aldN 4 t83 w9 fun t84 =>
acallW pr 9 [t84, t44] w9 (apn R) fun t86 w10 =>
acnd t86 (R (.ret (.b false)) w10) (aar .add (aix v20 0) (.i 1) fun t80 =>
k20 [t80] w10)) (R (.ret t14) w9)) (R (.ret t14) w9)) fun j19 =>
acallS pr 15 [t44] w7 (fun _ _ => False) fun t54 w11 =>
anotb t54 fun t55 =>
acnd t55 (R (.ret (.b false)) w11) (alenS t44 fun t58 =>
aar .lss t58 t52 fun t60 =>
acnd t60 (R (.ret (.b false)) w11) (aslcS t44 none (some t52) fun t65 =>
aslcS (aix v16 0) none (some t52) fun t68 =>
aar .neq t65 t68 fun t69 =>
acnd t69 (R (.ret (.b false)) w11) (j19 [] w11)))) fun j16 =>
anotb t47 fun t49 =>
acnd t49 (j16 [.s ⟨#[120]⟩] w6) (j16 [a1] w6))
theorem A5_eq : A5 = fun a0 a1 L R => aex pr ⟨[(11, [6, 7]), (32, [10]), (38, []), (41, [13])], [(17, [(0, 0), (1, 0), (2, 0), (3, 0), (4, 0), (5, 0), (6, 0), (7, 0), (8, 0), (9, 0), (10, 0), (11, 0), (12, 0), (13, 0), (14, 0), (15, 0), (16, 0), (17, 0)])]⟩ (bodyOf fn5) (aenv0 [a0, a1]) L (apost pr fn5.results.toList R) := by kernel_rfl
theorem s5 {a0 a1 : D} {L : List Bx} {R : AE → List Bx → Prop} (h : A5 a0 a1 L R) : ASpec pr 5 [a0, a1] L R :=
  aspec_of (A := ⟨[(11, [6, 7]), (32, [10]), (38, []), (41, [13])], [(17, [(0, 0), (1, 0), (2, 0), (3, 0), (4, 0), (5, 0), (6, 0), (7, 0), (8, 0), (9, 0), (10, 0), (11, 0), (12, 0), (13, 0), (14, 0), (15, 0), (16, 0), (17, 0)])]⟩) (fn := fn5) 2 mixed Tryd.func5 (by kernel_rfl) (by decide) rfl (by kernel_rfl) (by rw [A5_eq] at h; exact h)
end Go.Proofs.YtaigilchnadmpaaDoor
