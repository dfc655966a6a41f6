/- What must hold ahead of a call, function by function: printed by a program. -/
import Derived.Test.YtlonmopppgadgaaDoorW1
import Derived.KernelRfl
set_option maxRecDepth 100000
set_option linter.unusedVariables false
namespace Go.Proofs.YtlonmopppgadgaaDoor
open Go Go.V
noncomputable abbrev fn38 : Func := Tryd.f38
/- ashlar/term.Names -/
def A38 (a0 : D) (L : List Bx) (R : AE → List Bx → Prop) : Prop :=
abxv a0 L fun t1 w1 =>
aldN 4 t1 w1 fun t9 =>
acallW pr 23 [t9] w1 (apn R) fun t10 w2 =>
aext 0 t10 fun t11 =>
aext 1 t10 fun t12 =>
aar .neq t12 (.i 0) fun t14 =>
acnd t14 (R (.ret (.nil)) w2) (abx [.nil] w2 fun t5 w3 =>
abx [.val (.nilFunc)] w3 fun t6 w4 =>
ast 1 t6 (.fn 61 [] [t5, t6]) w4 fun w5 =>
ald1 t6 w5 fun t16 =>
aldN 4 t1 w5 fun t17 =>
acallF pr false t16 [t17] w5 (apn R) fun t18 w6 =>
abx [.val (.nilFunc)] w6 fun t7 w7 =>
ast 1 t7 (.fn 62 [] []) w7 fun w8 =>
ald1 t5 w8 fun t19 =>
ald1 t7 w8 fun t20 =>
acallW pr 66 [t19, t20] w8 (apn R) fun t21 w9 =>
ald1 t5 w9 fun t22 =>
acallW pr 67 [t22, .fn 68 [] [t7]] w9 (apn R) fun t24 w10 =>
R (.ret t24) w10)
theorem A38_eq : A38 = fun a0 L R => aex pr ⟨[], []⟩ (bodyOf fn38) (aenv0 [a0]) L (apost pr fn38.results.toList R) := by kernel_rfl
theorem s38 {a0 : D} {L : List Bx} {R : AE → List Bx → Prop} (h : A38 a0 L R) : ASpec pr 38 [a0] L R :=
  aspec_of (A := ⟨[], []⟩) (fn := fn38) 1 mixed Tryd.func38 (by kernel_rfl) (by decide) rfl (by kernel_rfl) (by rw [A38_eq] at h; exact h)
noncomputable abbrev fn61 : Func := Tryd.f61
/- ashlar/term.Names$1 -/
def A61 (a0 a1 a2 : D) (L : List Bx) (R : AE → List Bx → Prop) : Prop :=
abxv a0 L fun t3 w1 =>
ajn (fun v3 w2 =>
afld 3 t3 fun t20 =>
ald1 t20 w2 fun t21 =>
alenL t21 fun t22 =>
alp [.i 0] w2 fun v4 w3 k4 =>
aar .lss (aix v4 0) t22 fun t24 =>
acnd t24 (aidxS 4 t21 (aix v4 0) fun t25 =>
aldN 4 t25 w3 fun t26 =>
abx [.i 0, .s ⟨#[]⟩, .i 0, .nil] w3 fun t5 w4 =>
ast 4 t5 t26 w4 fun w5 =>
ald1 a2 w5 fun t27 =>
aldN 4 t5 w5 fun t28 =>
acallF pr false t27 [t28] w5 (apn R) fun t29 w6 =>
aar .add (aix v4 0) (.i 1) fun t30 =>
k4 [t30] w6) (R (.ret (.tuple [])) w3)) fun j3 =>
afld 1 t3 fun t6 =>
ald1 t6 w1 fun t7 =>
aar .neq t7 (.s ⟨#[]⟩) fun t8 =>
acnd t8 (ald1 a1 w1 fun t9 =>
afld 1 t3 fun t10 =>
ald1 t10 w1 fun t11 =>
afld 0 t3 fun t12 =>
ald1 t12 w1 fun t13 =>
afld 1 t3 fun t14 =>
ald1 t14 w1 fun t15 =>
abld [.i 0, .s ⟨#[]⟩, .i 0, .nil] [(0, 1, t13), (1, 1, t15)] fun t16 =>
abld [.s ⟨#[]⟩, .i 0, .s ⟨#[]⟩, .i 0, .nil] [(0, 1, t11), (1, 4, t16)] fun t17 =>
abldS 62 5 1 [.s ⟨#[]⟩, .i 0, .s ⟨#[]⟩, .i 0, .nil] [(0, 5, t17)] w1 fun t18 w7 =>
aapp 62 5 72 t9 t18 w7 fun t19 w8 =>
ast 1 a1 t19 w8 fun w9 =>
j3 [] w9) (j3 [] w1)
theorem A61_eq : A61 = fun a0 a1 a2 L R => aex pr ⟨[(6, []), (9, [23])], []⟩ (bodyOf fn61) (aenv0 [a0, a1, a2]) L (apost pr fn61.results.toList R) := by kernel_rfl
theorem s61 {a0 a1 a2 : D} {L : List Bx} {R : AE → List Bx → Prop} (h : A61 a0 a1 a2 L R) : ASpec pr 61 [a0, a1, a2] L R :=
  aspec_of (A := ⟨[(6, []), (9, [23])], []⟩) (fn := fn61) 3 mixed Tryd.func61 (by kernel_rfl) (by decide) rfl (by kernel_rfl) (by rw [A61_eq] at h; exact h)
noncomputable abbrev fn62 : Func := Tryd.f62
/- ashlar/term.Names$2 -/
def A62 (a0 a1 : D) (L : List Bx) (R : AE → List Bx → Prop) : Prop :=
abxv a0 L fun t2 w1 =>
abxv a1 w1 fun t3 w2 =>
afld 0 t2 fun t5 =>
ald1 t5 w2 fun t6 =>
afld 0 t3 fun t7 =>
ald1 t7 w2 fun t8 =>
acallS pr 64 [t6, t8] w2 (fun _ _ => False) fun t9 w3 =>
afld 1 t2 fun t10 =>
afld 0 t10 fun t11 =>
ald1 t11 w3 fun t12 =>
afld 1 t3 fun t13 =>
afld 0 t13 fun t14 =>
ald1 t14 w3 fun t15 =>
acallS pr 65 [t12, t15] w3 (fun _ _ => False) fun t16 w4 =>
abldF 1 2 [.i 0, .i 0] [(0, 1, t9), (1, 1, t16)] fun t17 =>
acallS pr 63 [t17] w4 (fun _ _ => False) fun t18 w5 =>
R (.ret t18) w5
theorem A62_eq : A62 = fun a0 a1 L R => aex pr ⟨[], [(1, [(0, 0), (1, 0), (2, 0), (3, 0), (4, 0), (5, 0), (6, 0), (7, 0), (8, 0), (9, 0), (10, 0), (11, 0), (12, 0), (13, 0), (14, 2)])]⟩ (bodyOf fn62) (aenv0 [a0, a1]) L (apost pr fn62.results.toList R) := by kernel_rfl
theorem s62 {a0 a1 : D} {L : List Bx} {R : AE → List Bx → Prop} (h : A62 a0 a1 L R) : ASpec pr 62 [a0, a1] L R :=
  aspec_of (A := ⟨[], [(1, [(0, 0), (1, 0), (2, 0), (3, 0), (4, 0), (5, 0), (6, 0), (7, 0), (8, 0), (9, 0), (10, 0), (11, 0), (12, 0), (13, 0), (14, 2)])]⟩) (fn := fn62) 2 mixed Tryd.func62 (by kernel_rfl) (by decide) rfl (by kernel_rfl) (by rw [A62_eq] at h; exact h)
noncomputable abbrev fn63 : Func := Tryd.f63
/- cmp.Or[int] -/
def A63 (a0 : D) (L : List Bx) (R : AE → List Bx → Prop) : Prop :=
alenL a0 fun t7 =>
alp [.i 0] L fun v3 w1 k3 =>
aar .lss (aix v3 0) t7 fun t9 =>
acnd t9 (aidxS 1 a0 (aix v3 0) fun t10 =>
ald1 t10 w1 fun t11 =>
aar .neq t11 (.i 0) fun t14 =>
acnd t14 (R (.ret t11) w1) (aar .add (aix v3 0) (.i 1) fun t16 =>
k3 [t16] w1)) (R (.ret (.i 0)) w1)
theorem A63_eq : A63 = fun a0 L R => aex pr ⟨[(7, [8])], []⟩ (bodyOf fn63) (aenv0 [a0]) L (apost pr fn63.results.toList R) := by kernel_rfl
theorem s63 {a0 : D} {L : List Bx} {R : AE → List Bx → Prop} (h : A63 a0 L R) : ASpec pr 63 [a0] L R :=
  aspec_of (A := ⟨[(7, [8])], []⟩) (fn := fn63) 1 mixed Tryd.func63 (by kernel_rfl) (by decide) rfl (by kernel_rfl) (by rw [A63_eq] at h; exact h)
noncomputable abbrev fn64 : Func := Tryd.f64
/- cmp.Compare[string] -/
def A64 (a0 a1 : D) (L : List Bx) (R : AE → List Bx → Prop) : Prop :=
acallW pr 102 [a0] L (apn R) fun t8 w1 =>
acallW pr 102 [a1] w1 (apn R) fun t10 w2 =>
acnd t8 (acnd t10 (R (.ret (.i 0)) w2) (R (.ret (.i (-1))) w2)) (acnd t10 (R (.ret (.i 1)) w2) (aar .lss a0 a1 fun t16 =>
acnd t16 (R (.ret (.i (-1))) w2) (aar .gtr a0 a1 fun t19 =>
acnd t19 (R (.ret (.i 1)) w2) (R (.ret (.i 0)) w2))))
theorem A64_eq : A64 = fun a0 a1 L R => aex pr ⟨[], []⟩ (bodyOf fn64) (aenv0 [a0, a1]) L (apost pr fn64.results.toList R) := by kernel_rfl
theorem s64 {a0 a1 : D} {L : List Bx} {R : AE → List Bx → Prop} (h : A64 a0 a1 L R) : ASpec pr 64 [a0, a1] L R :=
  aspec_of (A := ⟨[], []⟩) (fn := fn64) 2 mixed Tryd.func64 (by kernel_rfl) (by decide) rfl (by kernel_rfl) (by rw [A64_eq] at h; exact h)
noncomputable abbrev fn65 : Func := Tryd.f65
/- cmp.Compare[int] -/
def A65 (a0 a1 : D) (L : List Bx) (R : AE → List Bx → Prop) : Prop :=
acallW pr 103 [a0] L (apn R) fun t8 w1 =>
acallW pr 103 [a1] w1 (apn R) fun t10 w2 =>
acnd t8 (acnd t10 (R (.ret (.i 0)) w2) (R (.ret (.i (-1))) w2)) (acnd t10 (R (.ret (.i 1)) w2) (aar .lss a0 a1 fun t16 =>
acnd t16 (R (.ret (.i (-1))) w2) (aar .gtr a0 a1 fun t19 =>
acnd t19 (R (.ret (.i 1)) w2) (R (.ret (.i 0)) w2))))
theorem A65_eq : A65 = fun a0 a1 L R => aex pr ⟨[], []⟩ (bodyOf fn65) (aenv0 [a0, a1]) L (apost pr fn65.results.toList R) := by kernel_rfl
theorem s65 {a0 a1 : D} {L : List Bx} {R : AE → List Bx → Prop} (h : A65 a0 a1 L R) : ASpec pr 65 [a0, a1] L R :=
  aspec_of (A := ⟨[], []⟩) (fn := fn65) 2 mixed Tryd.func65 (by kernel_rfl) (by decide) rfl (by kernel_rfl) (by rw [A65_eq] at h; exact h)
noncomputable abbrev fn68 : Func := Tryd.f68
/- ashlar/term.Names$3 -/
def A68 (a0 a1 a2 : D) (L : List Bx) (R : AE → List Bx → Prop) : Prop :=
abxv a0 L fun t3 w1 =>
abxv a1 w1 fun t4 w2 =>
ald1 a2 w2 fun t6 =>
aldN 5 t3 w2 fun t7 =>
aldN 5 t4 w2 fun t8 =>
acallF pr false t6 [t7, t8] w2 (apn R) fun t9 w3 =>
aar .eql t9 (.i 0) fun t10 =>
R (.ret t10) w3
theorem A68_eq : A68 = fun a0 a1 a2 L R => aex pr ⟨[], []⟩ (bodyOf fn68) (aenv0 [a0, a1, a2]) L (apost pr fn68.results.toList R) := by kernel_rfl
theorem s68 {a0 a1 a2 : D} {L : List Bx} {R : AE → List Bx → Prop} (h : A68 a0 a1 a2 L R) : ASpec pr 68 [a0, a1, a2] L R :=
  aspec_of (A := ⟨[], []⟩) (fn := fn68) 3 mixed Tryd.func68 (by kernel_rfl) (by decide) rfl (by kernel_rfl) (by rw [A68_eq] at h; exact h)
noncomputable abbrev fn67 : Func := Tryd.f67
/- slices.CompactFunc[[]ashlar/api.Assign,ashlar/api.Assign] -/
def A67 (a0 a1 : D) (L : List Bx) (R : AE → List Bx → Prop) : Prop :=
alenL a0 fun t9 =>
aar .lss t9 (.i 2) fun t10 =>
acnd t10 (R (.ret a0) L) (alp [.i 1] L fun v4 w1 k4 =>
alenL a0 fun t14 =>
aar .lss (aix v4 0) t14 fun t15 =>
acnd t15 (aidxS 5 a0 (aix v4 0) fun t21 =>
aldN 5 t21 w1 fun t22 =>
aar .sub (aix v4 0) (.i 1) fun t25 =>
aidxS 5 a0 t25 fun t26 =>
aldN 5 t26 w1 fun t27 =>
acallF pr true a1 [t22, t27] w1 (fun _ _ => False) fun t28 w2 =>
acnd t28 (aslcL 5 a0 (some (aix v4 0)) none fun t31 =>
alp [aix v4 0, .i 1] w2 fun v9 w3 k9 =>
alenL t31 fun t34 =>
aar .lss (aix v9 1) t34 fun t35 =>
acnd t35 (aidxS 5 t31 (aix v9 1) fun t41 =>
aldN 5 t41 w3 fun t42 =>
aar .sub (aix v9 1) (.i 1) fun t45 =>
aidxS 5 t31 t45 fun t46 =>
aldN 5 t46 w3 fun t47 =>
acallF pr true a1 [t42, t47] w3 (fun _ _ => False) fun t48 w4 =>
anotb t48 fun t49 =>
acnd t49 (aidxS 5 t31 (aix v9 1) fun t54 =>
aldN 5 t54 w4 fun t55 =>
aidxS 5 a0 (aix v9 0) fun t56 =>
ast 5 t56 t55 w4 fun w5 =>
aar .add (aix v9 0) (.i 1) fun t58 =>
aar .add (aix v9 1) (.i 1) fun t37 =>
k9 [t58, t37] w5) (aar .add (aix v9 1) (.i 1) fun t37 =>
k9 [aix v9 0, t37] w4)) (aslcL 5 a0 (some (aix v9 0)) none fun t61 =>
aclr [.string ⟨#[]⟩, .int .i64 0, .string ⟨#[]⟩, .int .i64 0, .slice none 0 0] 5 t61 w3 fun w6 =>
aslcL 5 a0 none (some (aix v9 0)) fun t64 =>
R (.ret t64) w6)) (aar .add (aix v4 0) (.i 1) fun t17 =>
k4 [t17] w2)) (R (.ret a0) w1))
theorem A67_eq : A67 = fun a0 a1 L R => aex pr ⟨[(9, [5]), (19, [5, 7])], [(6, [(0, 0), (1, 0), (2, 0), (3, 0), (4, 0), (5, 0), (6, 0), (7, 0), (8, 0), (9, 0), (10, 0)]), (11, [(0, 0), (1, 0), (2, 0), (3, 0), (4, 0), (5, 0), (6, 0), (7, 0), (8, 0), (9, 0), (10, 0), (11, 0)])]⟩ (bodyOf fn67) (aenv0 [a0, a1]) L (apost pr fn67.results.toList R) := by kernel_rfl
theorem s67 {a0 a1 : D} {L : List Bx} {R : AE → List Bx → Prop} (h : A67 a0 a1 L R) : ASpec pr 67 [a0, a1] L R :=
  aspec_of (A := ⟨[(9, [5]), (19, [5, 7])], [(6, [(0, 0), (1, 0), (2, 0), (3, 0), (4, 0), (5, 0), (6, 0), (7, 0), (8, 0), (9, 0), (10, 0)]), (11, [(0, 0), (1, 0), (2, 0), (3, 0), (4, 0), (5, 0), (6, 0), (7, 0), (8, 0), (9, 0), (10, 0), (11, 0)])]⟩) (fn := fn67) 2 mixed Tryd.func67 (by kernel_rfl) (by decide) rfl (by kernel_rfl) (by rw [A67_eq] at h; exact h)
noncomputable abbrev fn102 : Func := Tryd.f102
/- cmp.isNaN[string] -/
def A102 (a0 : D) (L : List Bx) (R : AE → List Bx → Prop) : Prop :=
aar .neq a0 a0 fun t5 =>
R (.ret t5) L
theorem A102_eq : A102 = fun a0 L R => aex pr ⟨[], []⟩ (bodyOf fn102) (aenv0 [a0]) L (apost pr fn102.results.toList R) := by kernel_rfl
theorem s102 {a0 : D} {L : List Bx} {R : AE → List Bx → Prop} (h : A102 a0 L R) : ASpec pr 102 [a0] L R :=
  aspec_of (A := ⟨[], []⟩) (fn := fn102) 1 mixed Tryd.func102 (by kernel_rfl) (by decide) rfl (by kernel_rfl) (by rw [A102_eq] at h; exact h)
noncomputable abbrev fn103 : Func := Tryd.f103
/- cmp.isNaN[int] -/
def A103 (a0 : D) (L : List Bx) (R : AE → List Bx → Prop) : Prop :=
aar .neq a0 a0 fun t5 =>
R (.ret t5) L
theorem A103_eq : A103 = fun a0 L R => aex pr ⟨[], []⟩ (bodyOf fn103) (aenv0 [a0]) L (apost pr fn103.results.toList R) := by kernel_rfl
theorem s103 {a0 : D} {L : List Bx} {R : AE → List Bx → Prop} (h : A103 a0 L R) : ASpec pr 103 [a0] L R :=
  aspec_of (A := ⟨[], []⟩) (fn := fn103) 1 mixed Tryd.func103 (by kernel_rfl) (by decide) rfl (by kernel_rfl) (by rw [A103_eq] at h; exact h)
noncomputable abbrev fn33 : Func := Tryd.f33
/- ashlar/ashlarlaw03.shown -/
def A33 (L : List Bx) (R : AE → List Bx → Prop) : Prop :=
abld [.i 0, .s ⟨#[]⟩, .i 0, .nil] [(0, 1, .i 7), (1, 1, .s ⟨#[97]⟩)] fun t8 =>
abx [.i 0, .s ⟨#[]⟩, .i 0, .nil] L fun t1 w1 =>
ast 4 t1 t8 w1 fun w2 =>
abld [.i 0, .s ⟨#[]⟩, .i 0, .nil] [(0, 1, .i 1), (2, 1, .i 1)] fun t9 =>
aldN 4 t1 w2 fun t10 =>
abldS 24 4 1 [.i 0, .s ⟨#[]⟩, .i 0, .nil] [(0, 4, t10)] w2 fun t11 w3 =>
abld [.i 0, .s ⟨#[]⟩, .i 0, .nil] [(0, 1, .i 3), (3, 1, t11)] fun t12 =>
abldS 24 4 2 [.i 0, .s ⟨#[]⟩, .i 0, .nil, .i 0, .s ⟨#[]⟩, .i 0, .nil] [(0, 4, t9), (4, 4, t12)] w3 fun t13 w4 =>
abld [.i 0, .s ⟨#[]⟩, .i 0, .nil] [(0, 1, .i 22), (3, 1, t13)] fun t14 =>
abx [.i 0, .s ⟨#[]⟩, .i 0, .nil] w4 fun t2 w5 =>
ast 4 t2 t14 w5 fun w6 =>
aldN 4 t2 w6 fun t16 =>
acallW pr 23 [t16] w6 (apn R) fun t17 w7 =>
aext 0 t17 fun t18 =>
aext 1 t17 fun t19 =>
aldN 4 t2 w7 fun t21 =>
abldS 24 4 1 [.i 0, .s ⟨#[]⟩, .i 0, .nil] [(0, 4, t21)] w7 fun t22 w8 =>
abld [.i 0, .s ⟨#[]⟩, .i 0, .nil] [(0, 1, .i 3), (3, 1, t22)] fun t23 =>
acallW pr 23 [t23] w8 (apn R) fun t24 w9 =>
aext 0 t24 fun t25 =>
aext 1 t24 fun t26 =>
aldN 4 t2 w9 fun t27 =>
acallW pr 38 [t27] w9 (apn R) fun t28 w10 =>
aar .eql t18 (.i 4) fun t30 =>
acnd t30 (aar .eql t19 (.i 0) fun t33 =>
acnd t33 (aar .eql t26 (.i 3) fun t37 =>
acnd t37 (aldN 4 t2 w10 fun t40 =>
acallW pr 25 [t40] w10 (apn R) fun t41 w11 =>
aar .eql t41 (.i 4) fun t42 =>
acnd t42 (aldN 4 t2 w11 fun t45 =>
acallW pr 24 [t45] w11 (apn R) fun t46 w12 =>
aar .eql t46 (.i 3) fun t47 =>
acnd t47 (alenL t28 fun t51 =>
aar .eql t51 (.i 1) fun t52 =>
acnd t52 (aidxS 5 t28 (.i 0) fun t56 =>
afld 0 t56 fun t57 =>
ald1 t57 w12 fun t58 =>
aar .eql t58 (.s ⟨#[97]⟩) fun t59 =>
acnd t59 (aldN 4 t2 w12 fun t62 =>
aldN 4 t2 w12 fun t63 =>
acallW pr 40 [t62, t63] w12 (apn R) fun t64 w13 =>
acnd t64 (aldN 4 t2 w13 fun t67 =>
aldN 4 t1 w13 fun t68 =>
acallW pr 40 [t67, t68] w13 (apn R) fun t69 w14 =>
anotb t69 fun t70 =>
acnd t70 (acallW pr 41 [.s ⟨#[97, 49]⟩] w14 (apn R) fun t73 w15 =>
acnd t73 (acallW pr 41 [.s ⟨#[49, 97]⟩] w15 (apn R) fun t76 w16 =>
anotb t76 fun t77 =>
R (.ret t77) w16) (R (.ret (.b false)) w15)) (R (.ret (.b false)) w14)) (R (.ret (.b false)) w13)) (R (.ret (.b false)) w12)) (R (.ret (.b false)) w12)) (R (.ret (.b false)) w12)) (R (.ret (.b false)) w11)) (R (.ret (.b false)) w10)) (R (.ret (.b false)) w10)) (R (.ret (.b false)) w10)
theorem A33_eq : A33 = fun  L R => aex pr ⟨[], []⟩ (bodyOf fn33) (aenv0 []) L (apost pr fn33.results.toList R) := by kernel_rfl
theorem s33 {L : List Bx} {R : AE → List Bx → Prop} (h : A33  L R) : ASpec pr 33 [] L R :=
  aspec_of (A := ⟨[], []⟩) (fn := fn33) 0 mixed Tryd.func33 (by kernel_rfl) (by decide) rfl (by kernel_rfl) (by rw [A33_eq] at h; exact h)
noncomputable abbrev fn12 : Func := Tryd.f12
/- ashlar/ashlarlaw03.TermParts -/
def A12 (a0 : D) (L : List Bx) (R : AE → List Bx → Prop) : Prop :=
abxv a0 L fun t1 w1 =>
acallW pr 33 [] w1 (apn R) fun t11 w2 =>
aldN 4 t1 w2 fun t13 =>
acallW pr 23 [t13] w2 (apn R) fun t14 w3 =>
aext 0 t14 fun t15 =>
aext 1 t14 fun t16 =>
aar .neq t16 (.i 0) fun t18 =>
acnd t18 (R (.ret t11) w3) (alp [.i 1, .i 0, .i 0] w3 fun v8 w4 k8 =>
afld 3 t1 fun t21 =>
ald1 t21 w4 fun t22 =>
alenL t22 fun t23 =>
aar .lss (aix v8 2) t23 fun t24 =>
acnd t24 (afld 3 t1 fun t28 =>
ald1 t28 w4 fun t29 =>
aidxS 4 t29 (aix v8 2) fun t31 =>
aldN 4 t31 w4 fun t32 =>
acallW pr 23 [t32] w4 (apn R) fun t33 w5 =>
aext 0 t33 fun t34 =>
aext 1 t33 fun t35 =>
aar .neq t35 (.i 0) fun t37 =>
acnd t37 (R (.ret (.b false)) w5) (afld 3 t1 fun t39 =>
ald1 t39 w5 fun t40 =>
aidxS 4 t40 (aix v8 2) fun t42 =>
aldN 4 t42 w5 fun t43 =>
acallW pr 25 [t43] w5 (apn R) fun t44 w6 =>
aar .add (aix v8 0) t44 fun t45 =>
afld 3 t1 fun t47 =>
ald1 t47 w6 fun t48 =>
aidxS 4 t48 (aix v8 2) fun t50 =>
aldN 4 t50 w6 fun t51 =>
acallW pr 24 [t51] w6 (apn R) fun t52 w7 =>
amax2 (aix v8 1) t52 fun t53 =>
aar .add (aix v8 2) (.i 1) fun t26 =>
k8 [t45, t53, t26] w7)) (acnd t11 (aldN 4 t1 w4 fun t56 =>
acallW pr 25 [t56] w4 (apn R) fun t57 w8 =>
aar .eql t57 (aix v8 0) fun t59 =>
acnd t59 (aldN 4 t1 w8 fun t62 =>
acallW pr 24 [t62] w8 (apn R) fun t63 w9 =>
aar .add (aix v8 1) (.i 1) fun t65 =>
aar .eql t63 t65 fun t66 =>
acnd t66 (aldN 4 t1 w9 fun t69 =>
aldN 4 t1 w9 fun t70 =>
acallW pr 40 [t69, t70] w9 (apn R) fun t71 w10 =>
R (.ret t71) w10) (R (.ret (.b false)) w9)) (R (.ret (.b false)) w8)) (R (.ret (.b false)) w4)))
theorem A12_eq : A12 = fun a0 L R => aex pr ⟨[(17, [6, 7, 8])], []⟩ (bodyOf fn12) (aenv0 [a0]) L (apost pr fn12.results.toList R) := by kernel_rfl
theorem s12 {a0 : D} {L : List Bx} {R : AE → List Bx → Prop} (h : A12 a0 L R) : ASpec pr 12 [a0] L R :=
  aspec_of (A := ⟨[(17, [6, 7, 8])], []⟩) (fn := fn12) 1 mixed Tryd.func12 (by kernel_rfl) (by decide) rfl (by kernel_rfl) (by rw [A12_eq] at h; exact h)
noncomputable abbrev fn14 : Func := Tryd.f14
/- ashlar/ashlarlaw03.TermNames -/
def A14 (a0 : D) (L : List Bx) (R : AE → List Bx → Prop) : Prop :=
abxv a0 L fun t1 w1 =>
acallW pr 33 [] w1 (apn R) fun t8 w2 =>
aldN 4 t1 w2 fun t9 =>
acallW pr 38 [t9] w2 (apn R) fun t10 w3 =>
alp [.i 0] w3 fun v4 w4 k4 =>
alenL t10 fun t13 =>
aar .lss (aix v4 0) t13 fun t14 =>
acnd t14 (ajn (fun v8 w5 =>
aidxS 5 t10 (aix v4 0) fun t89 =>
afld 1 t89 fun t90 =>
aldN 4 t90 w5 fun t91 =>
acallW pr 23 [t91] w5 (apn R) fun t92 w6 =>
aext 0 t92 fun t93 =>
aext 1 t92 fun t94 =>
aar .neq t94 (.i 0) fun t96 =>
acnd t96 (R (.ret (.b false)) w6) (aar .add (aix v4 0) (.i 1) fun t16 =>
k4 [t16] w6)) fun j8 =>
aidxS 5 t10 (aix v4 0) fun t19 =>
afld 0 t19 fun t20 =>
ald1 t20 w4 fun t21 =>
acallS pr 41 [t21] w4 (fun _ _ => False) fun t22 w7 =>
anotb t22 fun t23 =>
acnd t23 (R (.ret (.b false)) w7) (aidxS 5 t10 (aix v4 0) fun t27 =>
afld 1 t27 fun t28 =>
afld 1 t28 fun t29 =>
ald1 t29 w7 fun t30 =>
aidxS 5 t10 (aix v4 0) fun t33 =>
afld 0 t33 fun t34 =>
ald1 t34 w7 fun t35 =>
aar .neq t30 t35 fun t36 =>
acnd t36 (R (.ret (.b false)) w7) (aar .gtr (aix v4 0) (.i 0) fun t40 =>
acnd t40 (aar .sub (aix v4 0) (.i 1) fun t44 =>
aidxS 5 t10 t44 fun t45 =>
afld 0 t45 fun t46 =>
ald1 t46 w7 fun t47 =>
aidxS 5 t10 (aix v4 0) fun t50 =>
afld 0 t50 fun t51 =>
ald1 t51 w7 fun t52 =>
aar .gtr t47 t52 fun t53 =>
acnd t53 (R (.ret (.b false)) w7) (aar .sub (aix v4 0) (.i 1) fun t57 =>
aidxS 5 t10 t57 fun t58 =>
afld 0 t58 fun t59 =>
ald1 t59 w7 fun t60 =>
aidxS 5 t10 (aix v4 0) fun t63 =>
afld 0 t63 fun t64 =>
ald1 t64 w7 fun t65 =>
aar .eql t60 t65 fun t66 =>
acnd t66 (aar .sub (aix v4 0) (.i 1) fun t70 =>
aidxS 5 t10 t70 fun t71 =>
afld 1 t71 fun t72 =>
afld 0 t72 fun t73 =>
ald1 t73 w7 fun t74 =>
aidxS 5 t10 (aix v4 0) fun t77 =>
afld 1 t77 fun t78 =>
afld 0 t78 fun t79 =>
ald1 t79 w7 fun t80 =>
aar .geq t74 t80 fun t81 =>
acnd t81 (R (.ret (.b false)) w7) (j8 [] w7)) (j8 [] w7))) (j8 [] w7)))) (R (.ret t8) w4)
theorem A14_eq : A14 = fun a0 L R => aex pr ⟨[(9, [5]), (16, [])], [(6, [(0, 0), (1, 0), (2, 0), (3, 0), (4, 0), (5, 0), (6, 0), (7, 0), (8, 0), (9, 0), (10, 0), (11, 0), (12, 0), (13, 0), (14, 0), (15, 0), (16, 0), (17, 0), (18, 0), (19, 0), (20, 0), (21, 0), (22, 0), (23, 0), (24, 0), (25, 0), (26, 0), (27, 0), (28, 0), (29, 0), (30, 0), (31, 0), (32, 0), (33, 0), (34, 0), (35, 0), (36, 0), (37, 0), (38, 0), (39, 0), (40, 0), (41, 0), (42, 0), (43, 0), (44, 0), (45, 0), (46, 0), (47, 0), (48, 0), (49, 0), (50, 0), (51, 0), (52, 0), (53, 0), (54, 0), (55, 0), (56, 0), (57, 0), (58, 0), (59, 0), (60, 0), (61, 0), (62, 0), (63, 0), (64, 0), (65, 0), (66, 0), (67, 0), (68, 0)])]⟩ (bodyOf fn14) (aenv0 [a0]) L (apost pr fn14.results.toList R) := by kernel_rfl
theorem s14 {a0 : D} {L : List Bx} {R : AE → List Bx → Prop} (h : A14 a0 L R) : ASpec pr 14 [a0] L R :=
  aspec_of (A := ⟨[(9, [5]), (16, [])], [(6, [(0, 0), (1, 0), (2, 0), (3, 0), (4, 0), (5, 0), (6, 0), (7, 0), (8, 0), (9, 0), (10, 0), (11, 0), (12, 0), (13, 0), (14, 0), (15, 0), (16, 0), (17, 0), (18, 0), (19, 0), (20, 0), (21, 0), (22, 0), (23, 0), (24, 0), (25, 0), (26, 0), (27, 0), (28, 0), (29, 0), (30, 0), (31, 0), (32, 0), (33, 0), (34, 0), (35, 0), (36, 0), (37, 0), (38, 0), (39, 0), (40, 0), (41, 0), (42, 0), (43, 0), (44, 0), (45, 0), (46, 0), (47, 0), (48, 0), (49, 0), (50, 0), (51, 0), (52, 0), (53, 0), (54, 0), (55, 0), (56, 0), (57, 0), (58, 0), (59, 0), (60, 0), (61, 0), (62, 0), (63, 0), (64, 0), (65, 0), (66, 0), (67, 0), (68, 0)])]⟩) (fn := fn14) 1 mixed Tryd.func14 (by kernel_rfl) (by decide) rfl (by kernel_rfl) (by rw [A14_eq] at h; exact h)
noncomputable abbrev fn15 : Func := Tryd.f15
/- ashlar/ashlarlaw03.TermWraps -/
def A15 (a0 a1 : D) (L : List Bx) (R : AE → List Bx → Prop) : Prop :=
abxv a0 L fun t2 w1 =>
acallW pr 33 [] w1 (apn R) fun t15 w2 =>
aldN 4 t2 w2 fun t17 =>
acallW pr 23 [t17] w2 (apn R) fun t18 w3 =>
aext 0 t18 fun t19 =>
aext 1 t18 fun t20 =>
ajn (fun v5 w4 =>
abldS 3 1 4 [.i 0, .i 0, .i 0, .i 0] [(0, 1, .i 18), (1, 1, .i 3), (2, 1, .i 10), (3, 1, .i 6)] w4 fun t34 w5 =>
abldS 3 1 4 [.i 0, .i 0, .i 0, .i 0] [(0, 1, .i 4), (1, 1, .i 2), (2, 1, .i 3), (3, 1, .i 1)] w5 fun t35 w6 =>
abldS 3 1 4 [.i 0, .i 0, .i 0, .i 0] [(0, 1, .i 4), (1, 1, .i 1), (2, 1, .i 2), (3, 1, .i 1)] w6 fun t36 w7 =>
alp [.i 0] w7 fun v9 w8 k9 =>
aar .lss (aix v9 0) (.i 4) fun t38 =>
acnd t38 (aidxS 1 t34 (aix v9 0) fun t43 =>
ald1 t43 w8 fun t44 =>
aldN 4 t2 w8 fun t45 =>
abldF 4 1 [.i 0, .s ⟨#[]⟩, .i 0, .nil] [(0, 4, t45)] fun t46 =>
abld [.i 0, .s ⟨#[]⟩, .i 0, .nil] [(0, 1, t44), (3, 1, t46)] fun t47 =>
abx [.i 0, .s ⟨#[]⟩, .i 0, .nil] w8 fun t12 w9 =>
ast 4 t12 t47 w9 fun w10 =>
ajn (fun v14 w11 =>
aldN 4 t12 w11 fun t56 =>
acallW pr 23 [t56] w11 (apn R) fun t57 w12 =>
aext 0 t57 fun t58 =>
aext 1 t57 fun t59 =>
aar .eql t59 (.i 0) fun t61 =>
aidxS 1 t35 (aix v9 0) fun t65 =>
ald1 t65 w12 fun t66 =>
aar .eql t19 t66 fun t67 =>
aarB .neq t61 t67 fun t68 =>
acnd t68 (R (.ret (.b false)) w12) (aar .eql t59 (.i 0) fun t71 =>
acnd t71 (aidxS 1 t36 (aix v9 0) fun t76 =>
ald1 t76 w12 fun t77 =>
aar .neq t58 t77 fun t78 =>
acnd t78 (R (.ret (.b false)) w12) (aldN 4 t12 w12 fun t82 =>
acallS pr 25 [t82] w12 (fun _ _ => False) fun t83 w13 =>
aldN 4 t2 w13 fun t84 =>
acallS pr 25 [t84] w13 (fun _ _ => False) fun t85 w14 =>
aar .add t85 (.i 1) fun t86 =>
aar .neq t83 t86 fun t87 =>
acnd t87 (R (.ret (.b false)) w14) (aldN 4 t12 w14 fun t90 =>
acallS pr 24 [t90] w14 (fun _ _ => False) fun t91 w15 =>
aldN 4 t2 w15 fun t92 =>
acallS pr 24 [t92] w15 (fun _ _ => False) fun t93 w16 =>
aar .add t93 (.i 1) fun t94 =>
aar .neq t91 t94 fun t95 =>
acnd t95 (R (.ret (.b false)) w16) (aar .add (aix v9 0) (.i 1) fun t40 =>
k9 [t40] w16)))) (aldN 4 t12 w12 fun t82 =>
acallS pr 25 [t82] w12 (fun _ _ => False) fun t83 w17 =>
aldN 4 t2 w17 fun t84 =>
acallS pr 25 [t84] w17 (fun _ _ => False) fun t85 w18 =>
aar .add t85 (.i 1) fun t86 =>
aar .neq t83 t86 fun t87 =>
acnd t87 (R (.ret (.b false)) w18) (aldN 4 t12 w18 fun t90 =>
acallS pr 24 [t90] w18 (fun _ _ => False) fun t91 w19 =>
aldN 4 t2 w19 fun t92 =>
acallS pr 24 [t92] w19 (fun _ _ => False) fun t93 w20 =>
aar .add t93 (.i 1) fun t94 =>
aar .neq t91 t94 fun t95 =>
acnd t95 (R (.ret (.b false)) w20) (aar .add (aix v9 0) (.i 1) fun t40 =>
k9 [t40] w20))))) fun j14 =>
aidxS 1 t34 (aix v9 0) fun t50 =>
ald1 t50 w10 fun t51 =>
aar .eql t51 (.i 6) fun t52 =>
acnd t52 (afld 2 t12 fun t54 =>
ast 1 t54 a1 w10 fun w21 =>
j14 [] w21) (j14 [] w10)) (R (.ret t15) w8)) fun j5 =>
aar .neq t20 (.i 0) fun t22 =>
acnd t22 (R (.ret t15) w3) (aldN 4 t2 w3 fun t24 =>
acallW pr 25 [t24] w3 (apn R) fun t25 w22 =>
aar .geq t25 (.i 1990) fun t26 =>
acnd t26 (R (.ret t15) w22) (aldN 4 t2 w22 fun t29 =>
acallW pr 24 [t29] w22 (apn R) fun t30 w23 =>
aar .geq t30 (.i 90) fun t31 =>
acnd t31 (R (.ret t15) w23) (j5 [] w23)))
theorem A15_eq : A15 = fun a0 a1 L R => aex pr ⟨[(10, []), (19, [11]), (28, [])], [(11, [(0, 0), (1, 0), (2, 0), (3, 0), (4, 0), (5, 0), (6, 0), (7, 3), (8, 2)]), (15, [(0, 0), (1, 0), (2, 0), (3, 0), (4, 0), (5, 0), (6, 0), (7, 0), (8, 0), (9, 0), (10, 0), (11, 0), (12, 0), (13, 0), (14, 0), (15, 0), (16, 0), (17, 0), (18, 0), (19, 0), (20, 0), (21, 0), (22, 0), (23, 0), (24, 0), (25, 0), (26, 0), (27, 0), (28, 0), (29, 0), (30, 0), (31, 0), (32, 0), (33, 0), (34, 0), (35, 0), (36, 0)])]⟩ (bodyOf fn15) (aenv0 [a0, a1]) L (apost pr fn15.results.toList R) := by kernel_rfl
theorem s15 {a0 a1 : D} {L : List Bx} {R : AE → List Bx → Prop} (h : A15 a0 a1 L R) : ASpec pr 15 [a0, a1] L R :=
  aspec_of (A := ⟨[(10, []), (19, [11]), (28, [])], [(11, [(0, 0), (1, 0), (2, 0), (3, 0), (4, 0), (5, 0), (6, 0), (7, 3), (8, 2)]), (15, [(0, 0), (1, 0), (2, 0), (3, 0), (4, 0), (5, 0), (6, 0), (7, 0), (8, 0), (9, 0), (10, 0), (11, 0), (12, 0), (13, 0), (14, 0), (15, 0), (16, 0), (17, 0), (18, 0), (19, 0), (20, 0), (21, 0), (22, 0), (23, 0), (24, 0), (25, 0), (26, 0), (27, 0), (28, 0), (29, 0), (30, 0), (31, 0), (32, 0), (33, 0), (34, 0), (35, 0), (36, 0)])]⟩) (fn := fn15) 2 mixed Tryd.func15 (by kernel_rfl) (by decide) rfl (by kernel_rfl) (by rw [A15_eq] at h; exact h)
noncomputable abbrev fn16 : Func := Tryd.f16
/- ashlar/ashlarlaw06.NormNames -/
def A16 (a0 : D) (L : List Bx) (R : AE → List Bx → Prop) : Prop :=
abxv a0 L fun t1 w1 =>
acallW pr 17 [] w1 (apn R) fun t9 w2 =>
aldN 4 t1 w2 fun t11 =>
acallW pr 18 [t11] w2 (apn R) fun t12 w3 =>
aext 0 t12 fun t13 =>
aext 1 t12 fun t14 =>
abx [.i 0, .s ⟨#[]⟩, .i 0, .nil] w3 fun t4 w4 =>
ast 4 t4 t13 w4 fun w5 =>
aar .neq t14 (.i 0) fun t16 =>
acnd t16 (R (.ret t9) w5) (aldN 4 t1 w5 fun t18 =>
acallW pr 38 [t18] w5 (apn R) fun t19 w6 =>
aldN 4 t4 w6 fun t20 =>
acallW pr 38 [t20] w6 (apn R) fun t21 w7 =>
alenL t19 fun t23 =>
alenL t21 fun t25 =>
aar .neq t23 t25 fun t26 =>
acnd t26 (R (.ret (.b false)) w7) (alp [.i 0] w7 fun v10 w8 k10 =>
alenL t19 fun t29 =>
aar .lss (aix v10 0) t29 fun t30 =>
acnd t30 (aidxS 5 t19 (aix v10 0) fun t35 =>
afld 0 t35 fun t36 =>
ald1 t36 w8 fun t37 =>
aidxS 5 t21 (aix v10 0) fun t40 =>
afld 0 t40 fun t41 =>
ald1 t41 w8 fun t42 =>
aar .neq t37 t42 fun t43 =>
acnd t43 (R (.ret (.b false)) w8) (aidxS 5 t19 (aix v10 0) fun t47 =>
afld 1 t47 fun t48 =>
afld 0 t48 fun t49 =>
ald1 t49 w8 fun t50 =>
aidxS 5 t21 (aix v10 0) fun t53 =>
afld 1 t53 fun t54 =>
afld 0 t54 fun t55 =>
ald1 t55 w8 fun t56 =>
aar .neq t50 t56 fun t57 =>
acnd t57 (R (.ret (.b false)) w8) (aar .add (aix v10 0) (.i 1) fun t32 =>
k10 [t32] w8))) (R (.ret t9) w8)))
theorem A16_eq : A16 = fun a0 L R => aex pr ⟨[(21, [8])], [(12, [(0, 0), (1, 0), (2, 0), (3, 0), (4, 0), (5, 0), (6, 0), (7, 0), (8, 0), (9, 0), (10, 0), (11, 0), (12, 0), (13, 0), (14, 0), (15, 0), (16, 0), (17, 0), (18, 0), (19, 0), (20, 0), (21, 0), (22, 0), (23, 0), (24, 0), (25, 0)])]⟩ (bodyOf fn16) (aenv0 [a0]) L (apost pr fn16.results.toList R) := by kernel_rfl
theorem s16 {a0 : D} {L : List Bx} {R : AE → List Bx → Prop} (h : A16 a0 L R) : ASpec pr 16 [a0] L R :=
  aspec_of (A := ⟨[(21, [8])], [(12, [(0, 0), (1, 0), (2, 0), (3, 0), (4, 0), (5, 0), (6, 0), (7, 0), (8, 0), (9, 0), (10, 0), (11, 0), (12, 0), (13, 0), (14, 0), (15, 0), (16, 0), (17, 0), (18, 0), (19, 0), (20, 0), (21, 0), (22, 0), (23, 0), (24, 0), (25, 0)])]⟩) (fn := fn16) 1 mixed Tryd.func16 (by kernel_rfl) (by decide) rfl (by kernel_rfl) (by rw [A16_eq] at h; exact h)
end Go.Proofs.YtlonmopppgadgaaDoor
