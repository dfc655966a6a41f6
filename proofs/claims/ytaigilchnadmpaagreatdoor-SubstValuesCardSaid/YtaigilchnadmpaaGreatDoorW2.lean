/- What must hold ahead of a call, function by function: printed by a program. -/
import Derived.Test.YtaigilchnadmpaaGreatDoorW1
import Derived.KernelRfl
set_option maxRecDepth 100000
set_option linter.unusedVariables false
namespace Go.Proofs.YtaigilchnadmpaaGreatDoor
open Go Go.V
noncomputable abbrev fn59 : Func := Tryz.f59
/- ashlar/term.Names -/
def A59 (a0 : D) (L : List Bx) (R : AE → List Bx → Prop) : Prop :=
abxv a0 L fun t1 w1 =>
aldN 4 t1 w1 fun t9 =>
acallW pr 12 [t9] w1 (apn R) fun t10 w2 =>
aext 0 t10 fun t11 =>
aext 1 t10 fun t12 =>
aar .neq t12 (.i 0) fun t14 =>
acnd t14 (R (.ret (.nil)) w2) (abx [.nil] w2 fun t5 w3 =>
abx [.val (.nilFunc)] w3 fun t6 w4 =>
ast 1 t6 (.fn 109 [] [t5, t6]) w4 fun w5 =>
ald1 t6 w5 fun t16 =>
aldN 4 t1 w5 fun t17 =>
acallF pr false t16 [t17] w5 (apn R) fun t18 w6 =>
abx [.val (.nilFunc)] w6 fun t7 w7 =>
ast 1 t7 (.fn 110 [] []) w7 fun w8 =>
ald1 t5 w8 fun t19 =>
ald1 t7 w8 fun t20 =>
acallW pr 114 [t19, t20] w8 (apn R) fun t21 w9 =>
ald1 t5 w9 fun t22 =>
acallW pr 115 [t22, .fn 116 [] [t7]] w9 (apn R) fun t24 w10 =>
R (.ret t24) w10)
theorem A59_eq : A59 = fun a0 L R => aex pr ⟨[], []⟩ (bodyOf fn59) (aenv0 [a0]) L (apost pr fn59.results.toList R) := by kernel_rfl
theorem s59 {a0 : D} {L : List Bx} {R : AE → List Bx → Prop} (h : A59 a0 L R) : ASpec pr 59 [a0] L R :=
  aspec_of (A := ⟨[], []⟩) (fn := fn59) 1 mixed Tryz.func59 (by kernel_rfl) (by decide) rfl (by kernel_rfl) (by rw [A59_eq] at h; exact h)
noncomputable abbrev fn109 : Func := Tryz.f109
/- ashlar/term.Names$1 -/
def A109 (a0 a1 a2 : D) (L : List Bx) (R : AE → List Bx → Prop) : Prop :=
abxv a0 L fun t3 w1 =>
ajn (fun v3 w2 =>
afld 3 t3 fun t20 =>
ald1 t20 w2 fun t21 =>
alenL t21 fun t22 =>
alp [.i 0] w2 fun v4 w3 k4 =>
aar .lss (aix v4 0) t22 fun t24 =>
acnd t24 (aidxS 4 t21 (aix v4 0) fun t25 =>
aldN 4 t25 w3 fun t26 =>
abx [.i 0, .s ⟨#[]⟩, .i 0, .nil] w3 fun t5 w4 =>
ast 4 t5 t26 w4 fun w5 =>
ald1 a2 w5 fun t27 =>
aldN 4 t5 w5 fun t28 =>
acallF pr false t27 [t28] w5 (apn R) fun t29 w6 =>
aar .add (aix v4 0) (.i 1) fun t30 =>
k4 [t30] w6) (R (.ret (.tuple [])) w3)) fun j3 =>
afld 1 t3 fun t6 =>
ald1 t6 w1 fun t7 =>
aar .neq t7 (.s ⟨#[]⟩) fun t8 =>
acnd t8 (ald1 a1 w1 fun t9 =>
afld 1 t3 fun t10 =>
ald1 t10 w1 fun t11 =>
afld 0 t3 fun t12 =>
ald1 t12 w1 fun t13 =>
afld 1 t3 fun t14 =>
ald1 t14 w1 fun t15 =>
abld [.i 0, .s ⟨#[]⟩, .i 0, .nil] [(0, 1, t13), (1, 1, t15)] fun t16 =>
abld [.s ⟨#[]⟩, .i 0, .s ⟨#[]⟩, .i 0, .nil] [(0, 1, t11), (1, 4, t16)] fun t17 =>
abldS 32 5 1 [.s ⟨#[]⟩, .i 0, .s ⟨#[]⟩, .i 0, .nil] [(0, 5, t17)] w1 fun t18 w7 =>
aapp 32 5 72 t9 t18 w7 fun t19 w8 =>
ast 1 a1 t19 w8 fun w9 =>
j3 [] w9) (j3 [] w1)
theorem A109_eq : A109 = fun a0 a1 a2 L R => aex pr ⟨[(6, []), (9, [23])], []⟩ (bodyOf fn109) (aenv0 [a0, a1, a2]) L (apost pr fn109.results.toList R) := by kernel_rfl
theorem s109 {a0 a1 a2 : D} {L : List Bx} {R : AE → List Bx → Prop} (h : A109 a0 a1 a2 L R) : ASpec pr 109 [a0, a1, a2] L R :=
  aspec_of (A := ⟨[(6, []), (9, [23])], []⟩) (fn := fn109) 3 mixed Tryz.func109 (by kernel_rfl) (by decide) rfl (by kernel_rfl) (by rw [A109_eq] at h; exact h)
noncomputable abbrev fn110 : Func := Tryz.f110
/- ashlar/term.Names$2 -/
def A110 (a0 a1 : D) (L : List Bx) (R : AE → List Bx → Prop) : Prop :=
abxv a0 L fun t2 w1 =>
abxv a1 w1 fun t3 w2 =>
afld 0 t2 fun t5 =>
ald1 t5 w2 fun t6 =>
afld 0 t3 fun t7 =>
ald1 t7 w2 fun t8 =>
acallS pr 112 [t6, t8] w2 (fun _ _ => False) fun t9 w3 =>
afld 1 t2 fun t10 =>
afld 0 t10 fun t11 =>
ald1 t11 w3 fun t12 =>
afld 1 t3 fun t13 =>
afld 0 t13 fun t14 =>
ald1 t14 w3 fun t15 =>
acallS pr 113 [t12, t15] w3 (fun _ _ => False) fun t16 w4 =>
abldF 1 2 [.i 0, .i 0] [(0, 1, t9), (1, 1, t16)] fun t17 =>
acallS pr 111 [t17] w4 (fun _ _ => False) fun t18 w5 =>
R (.ret t18) w5
theorem A110_eq : A110 = fun a0 a1 L R => aex pr ⟨[], [(1, [(0, 0), (1, 0), (2, 0), (3, 0), (4, 0), (5, 0), (6, 0), (7, 0), (8, 0), (9, 0), (10, 0), (11, 0), (12, 0), (13, 0), (14, 2)])]⟩ (bodyOf fn110) (aenv0 [a0, a1]) L (apost pr fn110.results.toList R) := by kernel_rfl
theorem s110 {a0 a1 : D} {L : List Bx} {R : AE → List Bx → Prop} (h : A110 a0 a1 L R) : ASpec pr 110 [a0, a1] L R :=
  aspec_of (A := ⟨[], [(1, [(0, 0), (1, 0), (2, 0), (3, 0), (4, 0), (5, 0), (6, 0), (7, 0), (8, 0), (9, 0), (10, 0), (11, 0), (12, 0), (13, 0), (14, 2)])]⟩) (fn := fn110) 2 mixed Tryz.func110 (by kernel_rfl) (by decide) rfl (by kernel_rfl) (by rw [A110_eq] at h; exact h)
noncomputable abbrev fn111 : Func := Tryz.f111
/- cmp.Or[int] -/
def A111 (a0 : D) (L : List Bx) (R : AE → List Bx → Prop) : Prop :=
alenL a0 fun t7 =>
alp [.i 0] L fun v3 w1 k3 =>
aar .lss (aix v3 0) t7 fun t9 =>
acnd t9 (aidxS 1 a0 (aix v3 0) fun t10 =>
ald1 t10 w1 fun t11 =>
aar .neq t11 (.i 0) fun t14 =>
acnd t14 (R (.ret t11) w1) (aar .add (aix v3 0) (.i 1) fun t16 =>
k3 [t16] w1)) (R (.ret (.i 0)) w1)
theorem A111_eq : A111 = fun a0 L R => aex pr ⟨[(7, [8])], []⟩ (bodyOf fn111) (aenv0 [a0]) L (apost pr fn111.results.toList R) := by kernel_rfl
theorem s111 {a0 : D} {L : List Bx} {R : AE → List Bx → Prop} (h : A111 a0 L R) : ASpec pr 111 [a0] L R :=
  aspec_of (A := ⟨[(7, [8])], []⟩) (fn := fn111) 1 mixed Tryz.func111 (by kernel_rfl) (by decide) rfl (by kernel_rfl) (by rw [A111_eq] at h; exact h)
noncomputable abbrev fn112 : Func := Tryz.f112
/- cmp.Compare[string] -/
def A112 (a0 a1 : D) (L : List Bx) (R : AE → List Bx → Prop) : Prop :=
acallW pr 159 [a0] L (apn R) fun t8 w1 =>
acallW pr 159 [a1] w1 (apn R) fun t10 w2 =>
acnd t8 (acnd t10 (R (.ret (.i 0)) w2) (R (.ret (.i (-1))) w2)) (acnd t10 (R (.ret (.i 1)) w2) (aar .lss a0 a1 fun t16 =>
acnd t16 (R (.ret (.i (-1))) w2) (aar .gtr a0 a1 fun t19 =>
acnd t19 (R (.ret (.i 1)) w2) (R (.ret (.i 0)) w2))))
theorem A112_eq : A112 = fun a0 a1 L R => aex pr ⟨[], []⟩ (bodyOf fn112) (aenv0 [a0, a1]) L (apost pr fn112.results.toList R) := by kernel_rfl
theorem s112 {a0 a1 : D} {L : List Bx} {R : AE → List Bx → Prop} (h : A112 a0 a1 L R) : ASpec pr 112 [a0, a1] L R :=
  aspec_of (A := ⟨[], []⟩) (fn := fn112) 2 mixed Tryz.func112 (by kernel_rfl) (by decide) rfl (by kernel_rfl) (by rw [A112_eq] at h; exact h)
noncomputable abbrev fn113 : Func := Tryz.f113
/- cmp.Compare[int] -/
def A113 (a0 a1 : D) (L : List Bx) (R : AE → List Bx → Prop) : Prop :=
acallW pr 160 [a0] L (apn R) fun t8 w1 =>
acallW pr 160 [a1] w1 (apn R) fun t10 w2 =>
acnd t8 (acnd t10 (R (.ret (.i 0)) w2) (R (.ret (.i (-1))) w2)) (acnd t10 (R (.ret (.i 1)) w2) (aar .lss a0 a1 fun t16 =>
acnd t16 (R (.ret (.i (-1))) w2) (aar .gtr a0 a1 fun t19 =>
acnd t19 (R (.ret (.i 1)) w2) (R (.ret (.i 0)) w2))))
theorem A113_eq : A113 = fun a0 a1 L R => aex pr ⟨[], []⟩ (bodyOf fn113) (aenv0 [a0, a1]) L (apost pr fn113.results.toList R) := by kernel_rfl
theorem s113 {a0 a1 : D} {L : List Bx} {R : AE → List Bx → Prop} (h : A113 a0 a1 L R) : ASpec pr 113 [a0, a1] L R :=
  aspec_of (A := ⟨[], []⟩) (fn := fn113) 2 mixed Tryz.func113 (by kernel_rfl) (by decide) rfl (by kernel_rfl) (by rw [A113_eq] at h; exact h)
noncomputable abbrev fn116 : Func := Tryz.f116
/- ashlar/term.Names$3 -/
def A116 (a0 a1 a2 : D) (L : List Bx) (R : AE → List Bx → Prop) : Prop :=
abxv a0 L fun t3 w1 =>
abxv a1 w1 fun t4 w2 =>
ald1 a2 w2 fun t6 =>
aldN 5 t3 w2 fun t7 =>
aldN 5 t4 w2 fun t8 =>
acallF pr false t6 [t7, t8] w2 (apn R) fun t9 w3 =>
aar .eql t9 (.i 0) fun t10 =>
R (.ret t10) w3
theorem A116_eq : A116 = fun a0 a1 a2 L R => aex pr ⟨[], []⟩ (bodyOf fn116) (aenv0 [a0, a1, a2]) L (apost pr fn116.results.toList R) := by kernel_rfl
theorem s116 {a0 a1 a2 : D} {L : List Bx} {R : AE → List Bx → Prop} (h : A116 a0 a1 a2 L R) : ASpec pr 116 [a0, a1, a2] L R :=
  aspec_of (A := ⟨[], []⟩) (fn := fn116) 3 mixed Tryz.func116 (by kernel_rfl) (by decide) rfl (by kernel_rfl) (by rw [A116_eq] at h; exact h)
noncomputable abbrev fn115 : Func := Tryz.f115
/- slices.CompactFunc[[]ashlar/api.Assign,ashlar/api.Assign] -/
def A115 (a0 a1 : D) (L : List Bx) (R : AE → List Bx → Prop) : Prop :=
alenL a0 fun t9 =>
aar .lss t9 (.i 2) fun t10 =>
acnd t10 (R (.ret a0) L) (alp [.i 1] L fun v4 w1 k4 =>
alenL a0 fun t14 =>
aar .lss (aix v4 0) t14 fun t15 =>
acnd t15 (aidxS 5 a0 (aix v4 0) fun t21 =>
aldN 5 t21 w1 fun t22 =>
aar .sub (aix v4 0) (.i 1) fun t25 =>
aidxS 5 a0 t25 fun t26 =>
aldN 5 t26 w1 fun t27 =>
acallF pr true a1 [t22, t27] w1 (fun _ _ => False) fun t28 w2 =>
acnd t28 (aslcL 5 a0 (some (aix v4 0)) none fun t31 =>
alp [aix v4 0, .i 1] w2 fun v9 w3 k9 =>
alenL t31 fun t34 =>
aar .lss (aix v9 1) t34 fun t35 =>
acnd t35 (aidxS 5 t31 (aix v9 1) fun t41 =>
aldN 5 t41 w3 fun t42 =>
aar .sub (aix v9 1) (.i 1) fun t45 =>
aidxS 5 t31 t45 fun t46 =>
aldN 5 t46 w3 fun t47 =>
acallF pr true a1 [t42, t47] w3 (fun _ _ => False) fun t48 w4 =>
anotb t48 fun t49 =>
acnd t49 (aidxS 5 t31 (aix v9 1) fun t54 =>
aldN 5 t54 w4 fun t55 =>
aidxS 5 a0 (aix v9 0) fun t56 =>
ast 5 t56 t55 w4 fun w5 =>
aar .add (aix v9 0) (.i 1) fun t58 =>
aar .add (aix v9 1) (.i 1) fun t37 =>
k9 [t58, t37] w5) (aar .add (aix v9 1) (.i 1) fun t37 =>
k9 [aix v9 0, t37] w4)) (aslcL 5 a0 (some (aix v9 0)) none fun t61 =>
aclr [.string ⟨#[]⟩, .int .i64 0, .string ⟨#[]⟩, .int .i64 0, .slice none 0 0] 5 t61 w3 fun w6 =>
aslcL 5 a0 none (some (aix v9 0)) fun t64 =>
R (.ret t64) w6)) (aar .add (aix v4 0) (.i 1) fun t17 =>
k4 [t17] w2)) (R (.ret a0) w1))
theorem A115_eq : A115 = fun a0 a1 L R => aex pr ⟨[(9, [5]), (19, [5, 7])], [(6, [(0, 0), (1, 0), (2, 0), (3, 0), (4, 0), (5, 0), (6, 0), (7, 0), (8, 0), (9, 0), (10, 0)]), (11, [(0, 0), (1, 0), (2, 0), (3, 0), (4, 0), (5, 0), (6, 0), (7, 0), (8, 0), (9, 0), (10, 0), (11, 0)])]⟩ (bodyOf fn115) (aenv0 [a0, a1]) L (apost pr fn115.results.toList R) := by kernel_rfl
theorem s115 {a0 a1 : D} {L : List Bx} {R : AE → List Bx → Prop} (h : A115 a0 a1 L R) : ASpec pr 115 [a0, a1] L R :=
  aspec_of (A := ⟨[(9, [5]), (19, [5, 7])], [(6, [(0, 0), (1, 0), (2, 0), (3, 0), (4, 0), (5, 0), (6, 0), (7, 0), (8, 0), (9, 0), (10, 0)]), (11, [(0, 0), (1, 0), (2, 0), (3, 0), (4, 0), (5, 0), (6, 0), (7, 0), (8, 0), (9, 0), (10, 0), (11, 0)])]⟩) (fn := fn115) 2 mixed Tryz.func115 (by kernel_rfl) (by decide) rfl (by kernel_rfl) (by rw [A115_eq] at h; exact h)
noncomputable abbrev fn159 : Func := Tryz.f159
/- cmp.isNaN[string] -/
def A159 (a0 : D) (L : List Bx) (R : AE → List Bx → Prop) : Prop :=
aar .neq a0 a0 fun t5 =>
R (.ret t5) L
theorem A159_eq : A159 = fun a0 L R => aex pr ⟨[], []⟩ (bodyOf fn159) (aenv0 [a0]) L (apost pr fn159.results.toList R) := by kernel_rfl
theorem s159 {a0 : D} {L : List Bx} {R : AE → List Bx → Prop} (h : A159 a0 L R) : ASpec pr 159 [a0] L R :=
  aspec_of (A := ⟨[], []⟩) (fn := fn159) 1 mixed Tryz.func159 (by kernel_rfl) (by decide) rfl (by kernel_rfl) (by rw [A159_eq] at h; exact h)
noncomputable abbrev fn160 : Func := Tryz.f160
/- cmp.isNaN[int] -/
def A160 (a0 : D) (L : List Bx) (R : AE → List Bx → Prop) : Prop :=
aar .neq a0 a0 fun t5 =>
R (.ret t5) L
theorem A160_eq : A160 = fun a0 L R => aex pr ⟨[], []⟩ (bodyOf fn160) (aenv0 [a0]) L (apost pr fn160.results.toList R) := by kernel_rfl
theorem s160 {a0 : D} {L : List Bx} {R : AE → List Bx → Prop} (h : A160 a0 L R) : ASpec pr 160 [a0] L R :=
  aspec_of (A := ⟨[], []⟩) (fn := fn160) 1 mixed Tryz.func160 (by kernel_rfl) (by decide) rfl (by kernel_rfl) (by rw [A160_eq] at h; exact h)
end Go.Proofs.YtaigilchnadmpaaGreatDoor
