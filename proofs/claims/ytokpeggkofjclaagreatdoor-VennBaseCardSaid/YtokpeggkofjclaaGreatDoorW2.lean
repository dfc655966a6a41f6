/- What must hold ahead of a call, function by function: printed by a program. -/
import Derived.Test.YtokpeggkofjclaaGreatDoorW1
import Derived.KernelRfl
set_option maxRecDepth 100000
set_option linter.unusedVariables false
namespace Go.Proofs.YtokpeggkofjclaaGreatDoor
open Go Go.V
noncomputable abbrev fn32 : Func := Tryz.f32
/- ashlar/term.Names -/
def A32 (a0 : D) (L : List Bx) (R : AE → List Bx → Prop) : Prop :=
abxv a0 L fun t1 w1 =>
aldN 4 t1 w1 fun t9 =>
acallW pr 31 [t9] w1 (apn R) fun t10 w2 =>
aext 0 t10 fun t11 =>
aext 1 t10 fun t12 =>
aar .neq t12 (.i 0) fun t14 =>
acnd t14 (R (.ret (.nil)) w2) (abx [.nil] w2 fun t5 w3 =>
abx [.val (.nilFunc)] w3 fun t6 w4 =>
ast 1 t6 (.fn 70 [] [t5, t6]) w4 fun w5 =>
ald1 t6 w5 fun t16 =>
aldN 4 t1 w5 fun t17 =>
acallF pr false t16 [t17] w5 (apn R) fun t18 w6 =>
abx [.val (.nilFunc)] w6 fun t7 w7 =>
ast 1 t7 (.fn 71 [] []) w7 fun w8 =>
ald1 t5 w8 fun t19 =>
ald1 t7 w8 fun t20 =>
acallW pr 75 [t19, t20] w8 (apn R) fun t21 w9 =>
ald1 t5 w9 fun t22 =>
acallW pr 76 [t22, .fn 77 [] [t7]] w9 (apn R) fun t24 w10 =>
R (.ret t24) w10)
theorem A32_eq : A32 = fun a0 L R => aex pr ⟨[], []⟩ (bodyOf fn32) (aenv0 [a0]) L (apost pr fn32.results.toList R) := by kernel_rfl
theorem s32 {a0 : D} {L : List Bx} {R : AE → List Bx → Prop} (h : A32 a0 L R) : ASpec pr 32 [a0] L R :=
  aspec_of (A := ⟨[], []⟩) (fn := fn32) 1 mixed Tryz.func32 (by kernel_rfl) (by decide) rfl (by kernel_rfl) (by rw [A32_eq] at h; exact h)
noncomputable abbrev fn70 : Func := Tryz.f70
/- ashlar/term.Names$1 -/
def A70 (a0 a1 a2 : D) (L : List Bx) (R : AE → List Bx → Prop) : Prop :=
abxv a0 L fun t3 w1 =>
ajn (fun v3 w2 =>
afld 3 t3 fun t20 =>
ald1 t20 w2 fun t21 =>
alenL t21 fun t22 =>
alp [.i 0] w2 fun v4 w3 k4 =>
aar .lss (aix v4 0) t22 fun t24 =>
acnd t24 (aidxS 4 t21 (aix v4 0) fun t25 =>
aldN 4 t25 w3 fun t26 =>
abx [.i 0, .s ⟨#[]⟩, .i 0, .nil] w3 fun t5 w4 =>
ast 4 t5 t26 w4 fun w5 =>
ald1 a2 w5 fun t27 =>
aldN 4 t5 w5 fun t28 =>
acallF pr false t27 [t28] w5 (apn R) fun t29 w6 =>
aar .add (aix v4 0) (.i 1) fun t30 =>
k4 [t30] w6) (R (.ret (.tuple [])) w3)) fun j3 =>
afld 1 t3 fun t6 =>
ald1 t6 w1 fun t7 =>
aar .neq t7 (.s ⟨#[]⟩) fun t8 =>
acnd t8 (ald1 a1 w1 fun t9 =>
afld 1 t3 fun t10 =>
ald1 t10 w1 fun t11 =>
afld 0 t3 fun t12 =>
ald1 t12 w1 fun t13 =>
afld 1 t3 fun t14 =>
ald1 t14 w1 fun t15 =>
abld [.i 0, .s ⟨#[]⟩, .i 0, .nil] [(0, 1, t13), (1, 1, t15)] fun t16 =>
abld [.s ⟨#[]⟩, .i 0, .s ⟨#[]⟩, .i 0, .nil] [(0, 1, t11), (1, 4, t16)] fun t17 =>
abldS 77 5 1 [.s ⟨#[]⟩, .i 0, .s ⟨#[]⟩, .i 0, .nil] [(0, 5, t17)] w1 fun t18 w7 =>
aapp 77 5 72 t9 t18 w7 fun t19 w8 =>
ast 1 a1 t19 w8 fun w9 =>
j3 [] w9) (j3 [] w1)
theorem A70_eq : A70 = fun a0 a1 a2 L R => aex pr ⟨[(6, []), (9, [23])], []⟩ (bodyOf fn70) (aenv0 [a0, a1, a2]) L (apost pr fn70.results.toList R) := by kernel_rfl
theorem s70 {a0 a1 a2 : D} {L : List Bx} {R : AE → List Bx → Prop} (h : A70 a0 a1 a2 L R) : ASpec pr 70 [a0, a1, a2] L R :=
  aspec_of (A := ⟨[(6, []), (9, [23])], []⟩) (fn := fn70) 3 mixed Tryz.func70 (by kernel_rfl) (by decide) rfl (by kernel_rfl) (by rw [A70_eq] at h; exact h)
noncomputable abbrev fn71 : Func := Tryz.f71
/- ashlar/term.Names$2 -/
def A71 (a0 a1 : D) (L : List Bx) (R : AE → List Bx → Prop) : Prop :=
abxv a0 L fun t2 w1 =>
abxv a1 w1 fun t3 w2 =>
afld 0 t2 fun t5 =>
ald1 t5 w2 fun t6 =>
afld 0 t3 fun t7 =>
ald1 t7 w2 fun t8 =>
acallS pr 73 [t6, t8] w2 (fun _ _ => False) fun t9 w3 =>
afld 1 t2 fun t10 =>
afld 0 t10 fun t11 =>
ald1 t11 w3 fun t12 =>
afld 1 t3 fun t13 =>
afld 0 t13 fun t14 =>
ald1 t14 w3 fun t15 =>
acallS pr 74 [t12, t15] w3 (fun _ _ => False) fun t16 w4 =>
abldF 1 2 [.i 0, .i 0] [(0, 1, t9), (1, 1, t16)] fun t17 =>
acallS pr 72 [t17] w4 (fun _ _ => False) fun t18 w5 =>
R (.ret t18) w5
theorem A71_eq : A71 = fun a0 a1 L R => aex pr ⟨[], [(1, [(0, 0), (1, 0), (2, 0), (3, 0), (4, 0), (5, 0), (6, 0), (7, 0), (8, 0), (9, 0), (10, 0), (11, 0), (12, 0), (13, 0), (14, 2)])]⟩ (bodyOf fn71) (aenv0 [a0, a1]) L (apost pr fn71.results.toList R) := by kernel_rfl
theorem s71 {a0 a1 : D} {L : List Bx} {R : AE → List Bx → Prop} (h : A71 a0 a1 L R) : ASpec pr 71 [a0, a1] L R :=
  aspec_of (A := ⟨[], [(1, [(0, 0), (1, 0), (2, 0), (3, 0), (4, 0), (5, 0), (6, 0), (7, 0), (8, 0), (9, 0), (10, 0), (11, 0), (12, 0), (13, 0), (14, 2)])]⟩) (fn := fn71) 2 mixed Tryz.func71 (by kernel_rfl) (by decide) rfl (by kernel_rfl) (by rw [A71_eq] at h; exact h)
noncomputable abbrev fn72 : Func := Tryz.f72
/- cmp.Or[int] -/
def A72 (a0 : D) (L : List Bx) (R : AE → List Bx → Prop) : Prop :=
alenL a0 fun t7 =>
alp [.i 0] L fun v3 w1 k3 =>
aar .lss (aix v3 0) t7 fun t9 =>
acnd t9 (aidxS 1 a0 (aix v3 0) fun t10 =>
ald1 t10 w1 fun t11 =>
aar .neq t11 (.i 0) fun t14 =>
acnd t14 (R (.ret t11) w1) (aar .add (aix v3 0) (.i 1) fun t16 =>
k3 [t16] w1)) (R (.ret (.i 0)) w1)
theorem A72_eq : A72 = fun a0 L R => aex pr ⟨[(7, [8])], []⟩ (bodyOf fn72) (aenv0 [a0]) L (apost pr fn72.results.toList R) := by kernel_rfl
theorem s72 {a0 : D} {L : List Bx} {R : AE → List Bx → Prop} (h : A72 a0 L R) : ASpec pr 72 [a0] L R :=
  aspec_of (A := ⟨[(7, [8])], []⟩) (fn := fn72) 1 mixed Tryz.func72 (by kernel_rfl) (by decide) rfl (by kernel_rfl) (by rw [A72_eq] at h; exact h)
noncomputable abbrev fn73 : Func := Tryz.f73
/- cmp.Compare[string] -/
def A73 (a0 a1 : D) (L : List Bx) (R : AE → List Bx → Prop) : Prop :=
acallW pr 114 [a0] L (apn R) fun t8 w1 =>
acallW pr 114 [a1] w1 (apn R) fun t10 w2 =>
acnd t8 (acnd t10 (R (.ret (.i 0)) w2) (R (.ret (.i (-1))) w2)) (acnd t10 (R (.ret (.i 1)) w2) (aar .lss a0 a1 fun t16 =>
acnd t16 (R (.ret (.i (-1))) w2) (aar .gtr a0 a1 fun t19 =>
acnd t19 (R (.ret (.i 1)) w2) (R (.ret (.i 0)) w2))))
theorem A73_eq : A73 = fun a0 a1 L R => aex pr ⟨[], []⟩ (bodyOf fn73) (aenv0 [a0, a1]) L (apost pr fn73.results.toList R) := by kernel_rfl
theorem s73 {a0 a1 : D} {L : List Bx} {R : AE → List Bx → Prop} (h : A73 a0 a1 L R) : ASpec pr 73 [a0, a1] L R :=
  aspec_of (A := ⟨[], []⟩) (fn := fn73) 2 mixed Tryz.func73 (by kernel_rfl) (by decide) rfl (by kernel_rfl) (by rw [A73_eq] at h; exact h)
noncomputable abbrev fn74 : Func := Tryz.f74
/- cmp.Compare[int] -/
def A74 (a0 a1 : D) (L : List Bx) (R : AE → List Bx → Prop) : Prop :=
acallW pr 115 [a0] L (apn R) fun t8 w1 =>
acallW pr 115 [a1] w1 (apn R) fun t10 w2 =>
acnd t8 (acnd t10 (R (.ret (.i 0)) w2) (R (.ret (.i (-1))) w2)) (acnd t10 (R (.ret (.i 1)) w2) (aar .lss a0 a1 fun t16 =>
acnd t16 (R (.ret (.i (-1))) w2) (aar .gtr a0 a1 fun t19 =>
acnd t19 (R (.ret (.i 1)) w2) (R (.ret (.i 0)) w2))))
theorem A74_eq : A74 = fun a0 a1 L R => aex pr ⟨[], []⟩ (bodyOf fn74) (aenv0 [a0, a1]) L (apost pr fn74.results.toList R) := by kernel_rfl
theorem s74 {a0 a1 : D} {L : List Bx} {R : AE → List Bx → Prop} (h : A74 a0 a1 L R) : ASpec pr 74 [a0, a1] L R :=
  aspec_of (A := ⟨[], []⟩) (fn := fn74) 2 mixed Tryz.func74 (by kernel_rfl) (by decide) rfl (by kernel_rfl) (by rw [A74_eq] at h; exact h)
noncomputable abbrev fn77 : Func := Tryz.f77
/- ashlar/term.Names$3 -/
def A77 (a0 a1 a2 : D) (L : List Bx) (R : AE → List Bx → Prop) : Prop :=
abxv a0 L fun t3 w1 =>
abxv a1 w1 fun t4 w2 =>
ald1 a2 w2 fun t6 =>
aldN 5 t3 w2 fun t7 =>
aldN 5 t4 w2 fun t8 =>
acallF pr false t6 [t7, t8] w2 (apn R) fun t9 w3 =>
aar .eql t9 (.i 0) fun t10 =>
R (.ret t10) w3
theorem A77_eq : A77 = fun a0 a1 a2 L R => aex pr ⟨[], []⟩ (bodyOf fn77) (aenv0 [a0, a1, a2]) L (apost pr fn77.results.toList R) := by kernel_rfl
theorem s77 {a0 a1 a2 : D} {L : List Bx} {R : AE → List Bx → Prop} (h : A77 a0 a1 a2 L R) : ASpec pr 77 [a0, a1, a2] L R :=
  aspec_of (A := ⟨[], []⟩) (fn := fn77) 3 mixed Tryz.func77 (by kernel_rfl) (by decide) rfl (by kernel_rfl) (by rw [A77_eq] at h; exact h)
noncomputable abbrev fn76 : Func := Tryz.f76
/- slices.CompactFunc[[]ashlar/api.Assign,ashlar/api.Assign] -/
def A76 (a0 a1 : D) (L : List Bx) (R : AE → List Bx → Prop) : Prop :=
alenL a0 fun t9 =>
aar .lss t9 (.i 2) fun t10 =>
acnd t10 (R (.ret a0) L) (alp [.i 1] L fun v4 w1 k4 =>
alenL a0 fun t14 =>
aar .lss (aix v4 0) t14 fun t15 =>
acnd t15 (aidxS 5 a0 (aix v4 0) fun t21 =>
aldN 5 t21 w1 fun t22 =>
aar .sub (aix v4 0) (.i 1) fun t25 =>
aidxS 5 a0 t25 fun t26 =>
aldN 5 t26 w1 fun t27 =>
acallF pr true a1 [t22, t27] w1 (fun _ _ => False) fun t28 w2 =>
acnd t28 (aslcL 5 a0 (some (aix v4 0)) none fun t31 =>
alp [aix v4 0, .i 1] w2 fun v9 w3 k9 =>
alenL t31 fun t34 =>
aar .lss (aix v9 1) t34 fun t35 =>
acnd t35 (aidxS 5 t31 (aix v9 1) fun t41 =>
aldN 5 t41 w3 fun t42 =>
aar .sub (aix v9 1) (.i 1) fun t45 =>
aidxS 5 t31 t45 fun t46 =>
aldN 5 t46 w3 fun t47 =>
acallF pr true a1 [t42, t47] w3 (fun _ _ => False) fun t48 w4 =>
anotb t48 fun t49 =>
acnd t49 (aidxS 5 t31 (aix v9 1) fun t54 =>
aldN 5 t54 w4 fun t55 =>
aidxS 5 a0 (aix v9 0) fun t56 =>
ast 5 t56 t55 w4 fun w5 =>
aar .add (aix v9 0) (.i 1) fun t58 =>
aar .add (aix v9 1) (.i 1) fun t37 =>
k9 [t58, t37] w5) (aar .add (aix v9 1) (.i 1) fun t37 =>
k9 [aix v9 0, t37] w4)) (aslcL 5 a0 (some (aix v9 0)) none fun t61 =>
aclr [.string ⟨#[]⟩, .int .i64 0, .string ⟨#[]⟩, .int .i64 0, .slice none 0 0] 5 t61 w3 fun w6 =>
aslcL 5 a0 none (some (aix v9 0)) fun t64 =>
R (.ret t64) w6)) (aar .add (aix v4 0) (.i 1) fun t17 =>
k4 [t17] w2)) (R (.ret a0) w1))
theorem A76_eq : A76 = fun a0 a1 L R => aex pr ⟨[(9, [5]), (19, [5, 7])], [(6, [(0, 0), (1, 0), (2, 0), (3, 0), (4, 0), (5, 0), (6, 0), (7, 0), (8, 0), (9, 0), (10, 0)]), (11, [(0, 0), (1, 0), (2, 0), (3, 0), (4, 0), (5, 0), (6, 0), (7, 0), (8, 0), (9, 0), (10, 0), (11, 0)])]⟩ (bodyOf fn76) (aenv0 [a0, a1]) L (apost pr fn76.results.toList R) := by kernel_rfl
theorem s76 {a0 a1 : D} {L : List Bx} {R : AE → List Bx → Prop} (h : A76 a0 a1 L R) : ASpec pr 76 [a0, a1] L R :=
  aspec_of (A := ⟨[(9, [5]), (19, [5, 7])], [(6, [(0, 0), (1, 0), (2, 0), (3, 0), (4, 0), (5, 0), (6, 0), (7, 0), (8, 0), (9, 0), (10, 0)]), (11, [(0, 0), (1, 0), (2, 0), (3, 0), (4, 0), (5, 0), (6, 0), (7, 0), (8, 0), (9, 0), (10, 0), (11, 0)])]⟩) (fn := fn76) 2 mixed Tryz.func76 (by kernel_rfl) (by decide) rfl (by kernel_rfl) (by rw [A76_eq] at h; exact h)
noncomputable abbrev fn114 : Func := Tryz.f114
/- cmp.isNaN[string] -/
def A114 (a0 : D) (L : List Bx) (R : AE → List Bx → Prop) : Prop :=
aar .neq a0 a0 fun t5 =>
R (.ret t5) L
theorem A114_eq : A114 = fun a0 L R => aex pr ⟨[], []⟩ (bodyOf fn114) (aenv0 [a0]) L (apost pr fn114.results.toList R) := by kernel_rfl
theorem s114 {a0 : D} {L : List Bx} {R : AE → List Bx → Prop} (h : A114 a0 L R) : ASpec pr 114 [a0] L R :=
  aspec_of (A := ⟨[], []⟩) (fn := fn114) 1 mixed Tryz.func114 (by kernel_rfl) (by decide) rfl (by kernel_rfl) (by rw [A114_eq] at h; exact h)
noncomputable abbrev fn115 : Func := Tryz.f115
/- cmp.isNaN[int] -/
def A115 (a0 : D) (L : List Bx) (R : AE → List Bx → Prop) : Prop :=
aar .neq a0 a0 fun t5 =>
R (.ret t5) L
theorem A115_eq : A115 = fun a0 L R => aex pr ⟨[], []⟩ (bodyOf fn115) (aenv0 [a0]) L (apost pr fn115.results.toList R) := by kernel_rfl
theorem s115 {a0 : D} {L : List Bx} {R : AE → List Bx → Prop} (h : A115 a0 L R) : ASpec pr 115 [a0] L R :=
  aspec_of (A := ⟨[], []⟩) (fn := fn115) 1 mixed Tryz.func115 (by kernel_rfl) (by decide) rfl (by kernel_rfl) (by rw [A115_eq] at h; exact h)
end Go.Proofs.YtokpeggkofjclaaGreatDoor
