/- What must hold ahead of a call, function by function: printed by a program. -/
import Derived.Test.YtokpeggkofjclaaGreatDoorW1
import Derived.KernelRfl
set_option maxRecDepth 100000
set_option linter.unusedVariables false
namespace Go.Proofs.YtokpeggkofjclaaGreatDoor
open Go Go.V
noncomputable abbrev fn32 : Func := Tryz.f32
/- ashlar/term.Names -/
def A32 (a0 : D) (L : List Bx) (R : AE → List Bx → Prop) : Prop :=
abxv a0 L fun t1 w1 =>
aldN 4 t1 w1 fun t9 =>
acallW pr 31 [t9] w1 (apn R) fun t10 w2 =>
aext 0 t10 fun t11 =>
aext 1 t10 fun t12 =>
aar .neq t12 (.i 0) fun t14 =>
acnd t14 (R (.ret (.nil)) w2) (abx [.nil] w2 fun t5 w3 =>
abx [.val (.nilFunc)] w3 fun t6 w4 =>
ast 1 t6 (.fn 70 [] [t5, t6]) w4 fun w5 =>
ald1 t6 w5 fun t16 =>
aldN 4 t1 w5 fun t17 =>
acallF pr false t16 [t17] w5 (apn R) fun t18 w6 =>
abx [.val (.nilFunc)] w6 fun t7 w7 =>
ast 1 t7 (.fn 71 [] []) w7 fun w8 =>
ald1 t5 w8 fun t19 =>
ald1 t7 w8 fun t20 =>
acallW pr 75 [t19, t20] w8 (apn R) fun t21 w9 =>
ald1 t5 w9 fun t22 =>
acallW pr 76 [t22, .fn 77 [] [t7]] w9 (apn R) fun t24 w10 =>
R (.ret t24) w10)
theorem A32_eq : A32 = fun a0 L R => aex pr ⟨[], []⟩ (bodyOf fn32) (aenv0 [a0]) L (apost pr fn32.results.toList R) := by kernel_rfl
theorem s32 {a0 : D} {L : List Bx} {R : AE → List Bx → Prop} (h : A32 a0 L R) : ASpec pr 32 [a0] L R :=
  aspec_of (A := ⟨[], []⟩) (fn := fn32) 1 mixed Tryz.func32 (by kernel_rfl) (by decide) rfl (by kernel_rfl) (by rw [A32_eq] at h; exact h)
noncomputable abbrev fn70 : Func := Tryz.f70
/- ashlar/term.Names$1 -/
def A70 (a0 a1 a2 : D) (L : List Bx) (R : AE → List Bx → Prop) : Prop :=
abxv a0 L fun t3 w1 =>
ajn (fun v3 w2 =>
afld 3 t3 fun t20 =>
ald1 t20 w2 fun t21 =>
alenL t21 fun t22 =>
alp [.i 0] w2 fun v4 w3 k4 =>
aar .lss (aix v4 0) t22 fun t24 =>
acnd t24 (aidxS 4 t21 (aix v4 0) fun t25 =>
aldN 4 t25 w3 fun t26 =>
abx [.i 0, .s ⟨#[]⟩, .i 0, .nil] w3 fun t5 w4 =>
ast 4 t5 t26 w4 fun w5 =>
ald1 a2 w5 fun t27 =>
aldN 4 t5 w5 fun t28 =>
acallF pr false t27 [t28] w5 (apn R) fun t29 w6 =>
aar .add (aix v4 0) (.i 1) fun t30 =>
k4 [t30] w6) (R (.ret (.tuple [])) w3)) fun j3 =>
afld 1 t3 fun t6 =>
ald1 t6 w1 fun t7 =>
aar .neq t7 (.s ⟨#[]⟩) fun t8 =>
acnd t8 (ald1 a1 w1 fun t9 =>
afld 1 t3 fun t10 =>
ald1 t10 w1 fun t11 =>
afld 0 t3 fun t12 =>
ald1 t12 w1 fun t13 =>
afld 1 t3 fun t14 =>
ald1 t14 w1 fun t15 =>
abld [.i 0, .s ⟨#[]⟩, .i 0, .nil] [(0, 1, t13), (1, 1, t15)] fun t16 =>
abld [.s ⟨#[]⟩, .i 0, .s ⟨#[]⟩, .i 0, .nil] [(0, 1, t11), (1, 4, t16)] fun t17 =>
abldS 77 5 1 [.s ⟨#[]⟩, .i 0, .s ⟨#[]⟩, .i 0, .nil] [(0, 5, t17)] w1 fun t18 w7 =>
aapp 77 5 72 t9 t18 w7 fun t19 w8 =>
ast 1 a1 t19 w8 fun w9 =>
j3 [] w9) (j3 [] w1)
theorem A70_eq : A70 = fun a0 a1 a2 L R => aex pr ⟨[(6, []), (9, [23])], []⟩ (bodyOf fn70) (aenv0 [a0, a1, a2]) L (apost pr fn70.results.toList R) := by kernel_rfl
theorem s70 {a0 a1 a2 : D} {L : List Bx} {R : AE → List Bx → Prop} (h : A70 a0 a1 a2 L R) : ASpec pr 70 [a0, a1, a2] L R :=
  aspec_of (A := ⟨[(6, []), (9, [23])], []⟩) (fn := fn70) 3 mixed Tryz.func70 (by kernel_rfl) (by decide) rfl (by kernel_rfl) (by rw [A70_eq] at h; exact h)
noncomputable abbrev fn71 : Func := Tryz.f71
/- ashlar/term.Names$2 -/
def A71 (a0 a1 : D) (L : List Bx) (R : AE → List Bx → Prop) : Prop :=
abxv a0 L fun t2 w1 =>
abxv a1 w1 fun t3 w2 =>
afld 0 t2 fun t5 =>
ald1 t5 w2 fun t6 =>
afld 0 t3 fun t7 =>
ald1 t7 w2 fun t8 =>
acallS pr 73 [t6, t8] w2 (fun _ _ => False) fun t9 w3 =>
afld 1 t2 fun t10 =>
afld 0 t10 fun t11 =>
ald1 t11 w3 fun t12 =>
afld 1 t3 fun t13 =>
afld 0 t13 fun t14 =>
ald1 t14 w3 fun t15 =>
acallS pr 74 [t12, t15] w3 (fun _ _ => False) fun t16 w4 =>
abldF 1 2 [.i 0, .i 0] [(0, 1, t9), (1, 1, t16)] fun t17 =>
acallS pr 72 [t17] w4 (fun _ _ => False) fun t18 w5 =>
R (.ret t18) w5
theorem A71_eq : A71 = fun a0 a1 L R => aex pr ⟨[], [(1, [(0, 0), (1, 0), (2, 0), (3, 0), (4, 0), (5, 0), (6, 0), (7, 0), (8, 0), (9, 0), (10, 0), (11, 0), (12, 0), (13, 0), (14, 2)])]⟩ (bodyOf fn71) (aenv0 [a0, a1]) L (apost pr fn71.results.toList R) := by kernel_rfl
theorem s71 {a0 a1 : D} {L : List Bx} {R : AE → List Bx → Prop} (h : A71 a0 a1 L R) : ASpec pr 71 [a0, a1] L R :=
  aspec_of (A := ⟨[], [(1, [(0, 0), (1, 0), (2, 0), (3, 0), (4, 0), (5, 0), (6, 0), (7, 0), (8, 0), (9, 0), (10, 0), (11, 0), (12, 0), (13, 0), (14, 2)])]⟩) (fn := fn71) 2 mixed Tryz.func71 (by kernel_rfl) (by decide) rfl (by kernel_rfl) (by rw [A71_eq] at h; exact h)
noncomputable abbrev fn72 : Func := Tryz.f72
/- cmp.Or[int] -/
def A72 (a0 : D) (L : List Bx) (R : AE → List Bx → Prop) : Prop :=
alenL a0 fun t7 =>
alp [.i 0] L fun v3 w1 k3 =>
aar .lss (aix v3 0) t7 fun t9 =>
acnd t9 (aidxS 1 a0 (aix v3 0) fun t10 =>
ald1 t10 w1 fun t11 =>
aar .neq t11 (.i 0) fun t14 =>
acnd t14 (R (.ret t11) w1) (aar .add (aix v3 0) (.i 1) fun t16 =>
k3 [t16] w1)) (R (.ret (.i 0)) w1)
theorem A72_eq : A72 = fun a0 L R => aex pr ⟨[(7, [8])], []⟩ (bodyOf fn72) (aenv0 [a0]) L (apost pr fn72.results.toList R) := by kernel_rfl
theorem s72 {a0 : D} {L : List Bx} {R : AE → List Bx → Prop} (h : A72 a0 L R) : ASpec pr 72 [a0] L R :=
  aspec_of (A := ⟨[(7, [8])], []⟩) (fn := fn72) 1 mixed Tryz.func72 (by kernel_rfl) (by decide) rfl (by kernel_rfl) (by rw [A72_eq] at h; exact h)
noncomputable abbrev fn73 : Func := Tryz.f73
/- cmp.Compare[string] -/
def A73 (a0 a1 : D) (L : List Bx) (R : AE → List Bx → Prop) : Prop :=
acallW pr 114 [a0] L (apn R) fun t8 w1 =>
acallW pr 114 [a1] w1 (apn R) fun t10 w2 =>
acnd t8 (acnd t10 (R (.ret (.i 0)) w2) (R (.ret (.i (-1))) w2)) (acnd t10 (R (.ret (.i 1)) w2) (aar .lss a0 a1 fun t16 =>
acnd t16 (R (.ret (.i (-1))) w2) (aar .gtr a0 a1 fun t19 =>
acnd t19 (R (.ret (.i 1)) w2) (R (.ret (.i 0)) w2))))
theorem A73_eq : A73 = fun a0 a1 L R => aex pr ⟨[], []⟩ (bodyOf fn73) (aenv0 [a0, a1]) L (apost pr fn73.results.toList R) := by kernel_rfl
theorem s73 {a0 a1 : D} {L : List Bx} {R : AE → List Bx → Prop} (h : A73 a0 a1 L R) : ASpec pr 73 [a0, a1] L R :=
  aspec_of (A := ⟨[], []⟩) (fn := fn73) 2 mixed Tryz.func73 (by kernel_rfl) (by decide) rfl (by kernel_rfl) (by rw [A73_eq] at h; exact h)
noncomputable abbrev fn74 : Func := Tryz.f74
/- cmp.Compare[int] -/
def A74 (a0 a1 : D) (L : List Bx) (R : AE → List Bx → Prop) : Prop :=
acallW pr 115 [a0] L (apn R) fun t8 w1 =>
acallW pr 115 [a1] w1 (apn R) fun t10 w2 =>
acnd t8 (acnd t10 (R (.ret (.i 0)) w2) (R (.ret (.i (-1))) w2)) (acnd t10 (R (.ret (.i 1)) w2) (aar .lss a0 a1 fun t16 =>
acnd t16 (R (.ret (.i (-1))) w2) (aar .gtr a0 a1 fun t19 =>
acnd t19 (R (.ret (.i 1)) w2) (R (.ret (.i 0)) w2))))
theorem A74_eq : A74 = fun a0 a1 L R => aex pr ⟨[], []⟩ (bodyOf fn74) (aenv0 [a0, a1]) L (apost pr fn74.results.toList R) := by kernel_rfl
theorem s74 {a0 a1 : D} {L : List Bx} {R : AE → List Bx → Prop} (h : A74 a0 a1 L R) : ASpec pr 74 [a0, a1] L R :=
  aspec_of (A := ⟨[], []⟩) (fn := fn74) 2 mixed Tryz.func74 (by kernel_rfl) (by decide) rfl (by kernel_rfl) (by rw [A74_eq] at h; exact h)
noncomputable abbrev fn77 : Func := Tryz.f77
/- ashlar/term.Names$3 -/
def A77 (a0 a1 a2 : D) (L : List Bx) (R : AE → List Bx → Prop) : Prop :=
abxv a0 L fun t3 w1 =>
abxv a1 w1 fun t4 w2 =>
ald1 a2 w2 fun t6 =>
aldN 5 t3 w2 fun t7 =>
aldN 5 t4 w2 fun t8 =>
acallF pr false t6 [t7, t8] w2 (apn R) fun t9 w3 =>
aar .eql t9 (.i 0) fun t10 =>
R (.ret t10) w3
theorem A77_eq : A77 = fun a0 a1 a2 L R => aex pr ⟨[], []⟩ (bodyOf fn77) (aenv0 [a0, a1, a2]) L (apost pr fn77.results.toList R) := by kernel_rfl
theorem s77 {a0 a1 a2 : D} {L : List Bx} {R : AE → List Bx → Prop} (h : A77 a0 a1 a2 L R) : ASpec pr 77 [a0, a1, a2] L R :=
  aspec_of (A := ⟨[], []⟩) (fn := fn77) 3 mixed Tryz.func77 (by kernel_rfl) (by decide) rfl (by kernel_rfl) (by rw [A77_eq] at h; exact h)
noncomputable abbrev fn76 : Func := Tryz.f76
/- slices.CompactFunc[[]ashlar/api.Assign,ashlar/api.Assign] -/
def A76 (a0 a1 : D) (L : List Bx) (R : AE → List Bx → Prop) : Prop :=
alenL a0 fun t9 =>
aar .lss t9 (.i 2) fun t10 =>
acnd t10 (R (.ret a0) L) (alp [.i 1] L fun v4 w1 k4 =>
alenL a0 fun t14 =>
aar .lss (aix v4 0) t14 fun t15 =>
acnd t15 (aidxS 5 a0 (aix v4 0) fun t21 =>
aldN 5 t21 w1 fun t22 =>
aar .sub (aix v4 0) (.i 1) fun t25 =>
aidxS 5 a0 t25 fun t26 =>
aldN 5 t26 w1 fun t27 =>
acallF pr true a1 [t22, t27] w1 (fun _ _ => False) fun t28 w2 =>
acnd t28 (aslcL 5 a0 (some (aix v4 0)) none fun t31 =>
alp [aix v4 0, .i 1] w2 fun v9 w3 k9 =>
alenL t31 fun t34 =>
aar .lss (aix v9 1) t34 fun t35 =>
acnd t35 (aidxS 5 t31 (aix v9 1) fun t41 =>
aldN 5 t41 w3 fun t42 =>
aar .sub (aix v9 1) (.i 1) fun t45 =>
aidxS 5 t31 t45 fun t46 =>
aldN 5 t46 w3 fun t47 =>
acallF pr true a1 [t42, t47] w3 (fun _ _ => False) fun t48 w4 =>
anotb t48 fun t49 =>
acnd t49 (aidxS 5 t31 (aix v9 1) fun t54 =>
aldN 5 t54 w4 fun t55 =>
aidxS 5 a0 (aix v9 0) fun t56 =>
ast 5 t56 t55 w4 fun w5 =>
aar .add (aix v9 0) (.i 1) fun t58 =>
aar .add (aix v9 1) (.i 1) fun t37 =>
k9 [t58, t37] w5) (aar .add (aix v9 1) (.i 1) fun t37 =>
k9 [aix v9 0, t37] w4)) (aslcL 5 a0 (some (aix v9 0)) none fun t61 =>
aclr [.string ⟨#[]⟩, .int .i64 0, .string ⟨#[]⟩, .int .i64 0, .slice none 0 0] 5 t61 w3 fun w6 =>
aslcL 5 a0 none (some (aix v9 0)) fun t64 =>
R (.ret t64) w6)) (aar .add (aix v4 0) (.i 1) fun t17 =>
k4 [t17] w2)) (R (.ret a0) w1))
theorem A76_eq : A76 = fun a0 a1 L R => aex pr ⟨[(9, [5]), (19, [5, 7])], [(6, [(0, 0), (1, 0), (2, 0), (3, 0), (4, 0), (5, 0), (6, 0), (7, 0), (8, 0), (9, 0), (10, 0)]), (11, [(0, 0), (1, 0), (2, 0), (3, 0), (4, 0), (5, 0), (6, 0), (7, 0), (8, 0), (9, 0), (10, 0), (11, 0)])]⟩ (bodyOf fn76) (aenv0 [a0, a1]) L (apost pr fn76.results.toList R) := by kernel_rfl
theorem s76 {a0 a1 : D} {L : List Bx} {R : AE → List Bx → Prop} (h : A76 a0 a1 L R) : ASpec pr 76 [a0, a1] L R :=
  aspec_of (A := ⟨[(9, [5]), (19, [5, 7])], [(6, [(0, 0), (1, 0), (2, 0), (3, 0), (4, 0), (5, 0), (6, 0), (7, 0), (8, 0), (9, 0), (10, 0)]), (11, [(0, 0), (1, 0), (2, 0), (3, 0), (4, 0), (5, 0), (6, 0), (7, 0), (8, 0), (9, 0), (10, 0), (11, 0)])]⟩) (fn := fn76) 2 mixed Tryz.func76 (by kernel_rfl) (by decide) rfl (by kernel_rfl) (by rw [A76_eq] at h; exact h)
noncomputable abbrev fn114 : Func := Tryz.f114
/- cmp.isNaN[string] -/
def A114 (a0 : D) (L : List Bx) (R : AE → List Bx → Prop) : Prop :=
aar .neq a0 a0 fun t5 =>
R (.ret t5) L
theorem A114_eq : A114 = fun a0 L R => aex pr ⟨[], []⟩ (bodyOf fn114) (aenv0 [a0]) L (apost pr fn114.results.toList R) := by kernel_rfl
theorem s114 {a0 : D} {L : List Bx} {R : AE → List Bx → Prop} (h : A114 a0 L R) : ASpec pr 114 [a0] L R :=
  aspec_of (A := ⟨[], []⟩) (fn := fn114) 1 mixed Tryz.func114 (by kernel_rfl) (by decide) rfl (by kernel_rfl) (by rw [A114_eq] at h; exact h)
noncomputable abbrev fn115 : Func := Tryz.f115
/- cmp.isNaN[int] -/
def A115 (a0 : D) (L : List Bx) (R : AE → List Bx → Prop) : Prop :=
aar .neq a0 a0 fun t5 =>
R (.ret t5) L
theorem A115_eq : A115 = fun a0 L R => aex pr ⟨[], []⟩ (bodyOf fn115) (aenv0 [a0]) L (apost pr fn115.results.toList R) := by kernel_rfl
theorem s115 {a0 : D} {L : List Bx} {R : AE → List Bx → Prop} (h : A115 a0 L R) : ASpec pr 115 [a0] L R :=
  aspec_of (A := ⟨[], []⟩) (fn := fn115) 1 mixed Tryz.func115 (by kernel_rfl) (by decide) rfl (by kernel_rfl) (by rw [A115_eq] at h; exact h)
end Go.Proofs.YtokpeggkofjclaaGreatDoor
/- What must hold ahead of a call, function by function: printed by a program. -/
set_option maxRecDepth 100000
set_option linter.unusedVariables false
namespace Go.Proofs.YtokpeggkofjclaaGreatDoor
open Go Go.V
noncomputable abbrev fn35 : Func := Tryz.f35
/- ashlar/ashlarref03.Names -/
def A35 (a0 : D) (L : List Bx) (R : AE → List Bx → Prop) : Prop :=
abxv a0 L fun t1 w1 =>
aldN 4 t1 w1 fun t6 =>
acallW pr 34 [t6] w1 (apn R) fun t7 w2 =>
aext 0 t7 fun t8 =>
aext 1 t7 fun t9 =>
aar .neq t9 (.i 0) fun t11 =>
acnd t11 (R (.ret (.nil)) w2) (aldN 4 t1 w2 fun t12 =>
acallW pr 81 [.nil, t12] w2 (apn R) fun t13 w3 =>
R (.ret t13) w3)
theorem A35_eq : A35 = fun a0 L R => aex pr ⟨[], []⟩ (bodyOf fn35) (aenv0 [a0]) L (apost pr fn35.results.toList R) := by kernel_rfl
theorem s35 {a0 : D} {L : List Bx} {R : AE → List Bx → Prop} (h : A35 a0 L R) : ASpec pr 35 [a0] L R :=
  aspec_of (A := ⟨[], []⟩) (fn := fn35) 1 mixed Tryz.func35 (by kernel_rfl) (by decide) rfl (by kernel_rfl) (by rw [A35_eq] at h; exact h)
end Go.Proofs.YtokpeggkofjclaaGreatDoor
/- What must hold ahead of a call, function by function: printed by a program. -/
set_option maxRecDepth 100000
set_option linter.unusedVariables false
namespace Go.Proofs.YtokpeggkofjclaaGreatDoor
open Go Go.V
noncomputable abbrev fn81 : Func := Tryz.f81
/- ashlar/ashlarref03.with -/
def A81 (a0 a1 : D) (L : List Bx) (R : AE → List Bx → Prop) : Prop :=
abxv a1 L fun t3 w1 =>
afld 0 t3 fun t8 =>
ald1 t8 w1 fun t9 =>
acallW pr 121 [t9] w1 (apn R) fun t10 w2 =>
acnd t10 (alp [.i 0] w2 fun v3 w3 k3 =>
alenL a0 fun t13 =>
aar .lss (aix v3 0) t13 fun t14 =>
acnd t14 (aidxS 5 a0 (aix v3 0) fun t18 =>
afld 0 t18 fun t19 =>
ald1 t19 w3 fun t20 =>
afld 1 t3 fun t21 =>
ald1 t21 w3 fun t22 =>
aar .lss t20 t22 fun t23 =>
acnd t23 (aar .add (aix v3 0) (.i 1) fun t47 =>
k3 [t47] w3) (aidxS 5 a0 (aix v3 0) fun t27 =>
afld 0 t27 fun t28 =>
ald1 t28 w3 fun t29 =>
afld 1 t3 fun t30 =>
ald1 t30 w3 fun t31 =>
aar .eql t29 t31 fun t32 =>
acnd t32 (aidxS 5 a0 (aix v3 0) fun t36 =>
afld 1 t36 fun t37 =>
afld 0 t37 fun t38 =>
ald1 t38 w3 fun t39 =>
afld 0 t3 fun t40 =>
ald1 t40 w3 fun t41 =>
aar .lss t39 t41 fun t42 =>
acnd t42 (aar .add (aix v3 0) (.i 1) fun t47 =>
k3 [t47] w3) (ajn (fun v7 w4 =>
afld 1 t3 fun t74 =>
ald1 t74 w4 fun t75 =>
afld 0 t3 fun t76 =>
ald1 t76 w4 fun t77 =>
afld 1 t3 fun t78 =>
ald1 t78 w4 fun t79 =>
abld [.i 0, .s ⟨#[]⟩, .i 0, .nil] [(0, 1, t77), (1, 1, t79)] fun t80 =>
abld [.s ⟨#[]⟩, .i 0, .s ⟨#[]⟩, .i 0, .nil] [(0, 1, t75), (1, 4, t80)] fun t81 =>
abx [.s ⟨#[]⟩, .i 0, .s ⟨#[]⟩, .i 0, .nil] w4 fun t6 w5 =>
ast 5 t6 t81 w5 fun w6 =>
aslcL 5 a0 none (some (aix v3 0)) fun t85 =>
∃ x, x ∈ w6 ∧ x.k = .box ∧
aldN 5 t6 ([x]) fun t87 =>
abldF 5 1 [.s ⟨#[]⟩, .i 0, .s ⟨#[]⟩, .i 0, .nil] [(0, 5, t87)] fun t88 =>
aslcL 5 a0 (some (aix v3 0)) none fun t92 =>
abldS 77 5 0 [] [] w6 fun t82 w7 =>
(∀ x ∈ w6, x.k = .box → x ∈ w7) ∧
aapp 77 5 72 t82 t85 w7 fun t86 w8 =>
(∀ x ∈ w7, x.k = .box → x ∈ w8) ∧
aapp 77 5 72 t86 t88 w8 fun t89 w9 =>
aapp 77 5 72 t89 t92 w9 fun t93 w10 =>
R (.ret t93) w10) fun j7 =>
alenL a0 fun t50 =>
aar .lss (aix v3 0) t50 fun t51 =>
acnd t51 (aidxS 5 a0 (aix v3 0) fun t55 =>
afld 0 t55 fun t56 =>
ald1 t56 w3 fun t57 =>
afld 1 t3 fun t58 =>
ald1 t58 w3 fun t59 =>
aar .eql t57 t59 fun t60 =>
acnd t60 (aidxS 5 a0 (aix v3 0) fun t65 =>
afld 1 t65 fun t66 =>
afld 0 t66 fun t67 =>
ald1 t67 w3 fun t68 =>
afld 0 t3 fun t69 =>
ald1 t69 w3 fun t70 =>
aar .eql t68 t70 fun t71 =>
acnd t71 (R (.ret a0) w3) (j7 [] w3)) (j7 [] w3)) (j7 [] w3))) (ajn (fun v7 w11 =>
afld 1 t3 fun t74 =>
ald1 t74 w11 fun t75 =>
afld 0 t3 fun t76 =>
ald1 t76 w11 fun t77 =>
afld 1 t3 fun t78 =>
ald1 t78 w11 fun t79 =>
abld [.i 0, .s ⟨#[]⟩, .i 0, .nil] [(0, 1, t77), (1, 1, t79)] fun t80 =>
abld [.s ⟨#[]⟩, .i 0, .s ⟨#[]⟩, .i 0, .nil] [(0, 1, t75), (1, 4, t80)] fun t81 =>
abx [.s ⟨#[]⟩, .i 0, .s ⟨#[]⟩, .i 0, .nil] w11 fun t6 w12 =>
ast 5 t6 t81 w12 fun w13 =>
aslcL 5 a0 none (some (aix v3 0)) fun t85 =>
∃ x, x ∈ w13 ∧ x.k = .box ∧
aldN 5 t6 ([x]) fun t87 =>
abldF 5 1 [.s ⟨#[]⟩, .i 0, .s ⟨#[]⟩, .i 0, .nil] [(0, 5, t87)] fun t88 =>
aslcL 5 a0 (some (aix v3 0)) none fun t92 =>
abldS 77 5 0 [] [] w13 fun t82 w14 =>
(∀ x ∈ w13, x.k = .box → x ∈ w14) ∧
aapp 77 5 72 t82 t85 w14 fun t86 w15 =>
(∀ x ∈ w14, x.k = .box → x ∈ w15) ∧
aapp 77 5 72 t86 t88 w15 fun t89 w16 =>
aapp 77 5 72 t89 t92 w16 fun t93 w17 =>
R (.ret t93) w17) fun j7 =>
alenL a0 fun t50 =>
aar .lss (aix v3 0) t50 fun t51 =>
acnd t51 (aidxS 5 a0 (aix v3 0) fun t55 =>
afld 0 t55 fun t56 =>
ald1 t56 w3 fun t57 =>
afld 1 t3 fun t58 =>
ald1 t58 w3 fun t59 =>
aar .eql t57 t59 fun t60 =>
acnd t60 (aidxS 5 a0 (aix v3 0) fun t65 =>
afld 1 t65 fun t66 =>
afld 0 t66 fun t67 =>
ald1 t67 w3 fun t68 =>
afld 0 t3 fun t69 =>
ald1 t69 w3 fun t70 =>
aar .eql t68 t70 fun t71 =>
acnd t71 (R (.ret a0) w3) (j7 [] w3)) (j7 [] w3)) (j7 [] w3)))) (ajn (fun v7 w18 =>
afld 1 t3 fun t74 =>
ald1 t74 w18 fun t75 =>
afld 0 t3 fun t76 =>
ald1 t76 w18 fun t77 =>
afld 1 t3 fun t78 =>
ald1 t78 w18 fun t79 =>
abld [.i 0, .s ⟨#[]⟩, .i 0, .nil] [(0, 1, t77), (1, 1, t79)] fun t80 =>
abld [.s ⟨#[]⟩, .i 0, .s ⟨#[]⟩, .i 0, .nil] [(0, 1, t75), (1, 4, t80)] fun t81 =>
abx [.s ⟨#[]⟩, .i 0, .s ⟨#[]⟩, .i 0, .nil] w18 fun t6 w19 =>
ast 5 t6 t81 w19 fun w20 =>
aslcL 5 a0 none (some (aix v3 0)) fun t85 =>
∃ x, x ∈ w20 ∧ x.k = .box ∧
aldN 5 t6 ([x]) fun t87 =>
abldF 5 1 [.s ⟨#[]⟩, .i 0, .s ⟨#[]⟩, .i 0, .nil] [(0, 5, t87)] fun t88 =>
aslcL 5 a0 (some (aix v3 0)) none fun t92 =>
abldS 77 5 0 [] [] w20 fun t82 w21 =>
(∀ x ∈ w20, x.k = .box → x ∈ w21) ∧
aapp 77 5 72 t82 t85 w21 fun t86 w22 =>
(∀ x ∈ w21, x.k = .box → x ∈ w22) ∧
aapp 77 5 72 t86 t88 w22 fun t89 w23 =>
aapp 77 5 72 t89 t92 w23 fun t93 w24 =>
R (.ret t93) w24) fun j7 =>
alenL a0 fun t50 =>
aar .lss (aix v3 0) t50 fun t51 =>
acnd t51 (aidxS 5 a0 (aix v3 0) fun t55 =>
afld 0 t55 fun t56 =>
ald1 t56 w3 fun t57 =>
afld 1 t3 fun t58 =>
ald1 t58 w3 fun t59 =>
aar .eql t57 t59 fun t60 =>
acnd t60 (aidxS 5 a0 (aix v3 0) fun t65 =>
afld 1 t65 fun t66 =>
afld 0 t66 fun t67 =>
ald1 t67 w3 fun t68 =>
afld 0 t3 fun t69 =>
ald1 t69 w3 fun t70 =>
aar .eql t68 t70 fun t71 =>
acnd t71 (R (.ret a0) w3) (j7 [] w3)) (j7 [] w3)) (j7 [] w3))) (alp [a0, .i 0] w2 fun v10 w25 k10 =>
afld 3 t3 fun t95 =>
ald1 t95 w25 fun t96 =>
alenL t96 fun t97 =>
aar .lss (aix v10 1) t97 fun t98 =>
acnd t98 (afld 3 t3 fun t102 =>
ald1 t102 w25 fun t103 =>
aidxS 4 t103 (aix v10 1) fun t105 =>
aldN 4 t105 w25 fun t106 =>
acallW pr 81 [aix v10 0, t106] w25 (apn R) fun t107 w26 =>
aar .add (aix v10 1) (.i 1) fun t100 =>
k10 [t107, t100] w26) (R (.ret (aix v10 0)) w25))
theorem A81_eq : A81 = fun a0 a1 L R => aex pr ⟨[(7, [5]), (14, []), (21, [0, 7])], [(3, [(0, 0), (1, 0), (2, 0), (3, 0), (4, 0), (5, 0), (6, 0), (7, 0), (8, 0), (9, 0), (10, 0), (11, 0), (12, 0), (13, 0), (14, 0), (15, 0), (16, 0), (17, 0), (18, 0), (19, 0), (20, 0), (21, 0), (22, 0), (23, 0), (24, 0), (25, 0), (26, 0), (27, 0), (28, 0), (29, 0), (30, 0), (31, 0), (32, 0), (33, 0), (34, 0)]), (5, [(0, 0), (1, 0), (2, 0), (3, 0), (4, 0), (5, 0), (6, 0), (7, 0), (8, 0), (9, 0), (10, 0), (11, 0), (12, 0), (13, 0), (14, 0), (15, 0), (16, 0), (17, 0), (18, 0), (19, 0), (20, 0), (21, 0), (22, 0), (23, 0), (24, 0)]), (8, [(1, 0), (2, 0), (3, 0), (5, 5), (6, 0), (8, 0), (9, 0), (10, 0), (0, 4), (4, 4), (7, 2), (11, 2), (12, 2)])]⟩ (bodyOf fn81) (aenv0 [a0, a1]) L (apost pr fn81.results.toList R) := by kernel_rfl
theorem s81 {a0 a1 : D} {L : List Bx} {R : AE → List Bx → Prop} (h : A81 a0 a1 L R) : ASpec pr 81 [a0, a1] L R :=
  aspec_of (A := ⟨[(7, [5]), (14, []), (21, [0, 7])], [(3, [(0, 0), (1, 0), (2, 0), (3, 0), (4, 0), (5, 0), (6, 0), (7, 0), (8, 0), (9, 0), (10, 0), (11, 0), (12, 0), (13, 0), (14, 0), (15, 0), (16, 0), (17, 0), (18, 0), (19, 0), (20, 0), (21, 0), (22, 0), (23, 0), (24, 0), (25, 0), (26, 0), (27, 0), (28, 0), (29, 0), (30, 0), (31, 0), (32, 0), (33, 0), (34, 0)]), (5, [(0, 0), (1, 0), (2, 0), (3, 0), (4, 0), (5, 0), (6, 0), (7, 0), (8, 0), (9, 0), (10, 0), (11, 0), (12, 0), (13, 0), (14, 0), (15, 0), (16, 0), (17, 0), (18, 0), (19, 0), (20, 0), (21, 0), (22, 0), (23, 0), (24, 0)]), (8, [(1, 0), (2, 0), (3, 0), (5, 5), (6, 0), (8, 0), (9, 0), (10, 0), (0, 4), (4, 4), (7, 2), (11, 2), (12, 2)])]⟩) (fn := fn81) 2 mixed Tryz.func81 (by kernel_rfl) (by decide) rfl (by kernel_rfl) (by rw [A81_eq] at h; exact h)
end Go.Proofs.YtokpeggkofjclaaGreatDoor
