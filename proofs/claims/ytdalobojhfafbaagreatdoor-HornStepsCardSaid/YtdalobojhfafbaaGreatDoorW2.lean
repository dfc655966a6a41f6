/- What must hold ahead of a call, function by function: printed by a program. -/
import Derived.Test.YtdalobojhfafbaaGreatDoorW1
import Derived.KernelRfl
set_option maxRecDepth 100000
set_option linter.unusedVariables false
namespace Go.Proofs.YtdalobojhfafbaaGreatDoor
open Go Go.V
noncomputable abbrev fn100 : Func := Tryz.f100
def A100 (a0 : D) (L : List Bx) (R : AE → List Bx → Prop) : Prop :=
abxv a0 L fun t1 w1 =>
aldN 4 t1 w1 fun t9 =>
acallW pr 69 [t9] w1 (apn R) fun t10 w2 =>
aext 0 t10 fun t11 =>
aext 1 t10 fun t12 =>
aar .neq t12 (.i 0) fun t14 =>
acnd t14 (R (.ret (.nil)) w2) (abx [.nil] w2 fun t5 w3 =>
abx [.val (.nilFunc)] w3 fun t6 w4 =>
ast 1 t6 (.fn 146 [] [t5, t6]) w4 fun w5 =>
ald1 t6 w5 fun t16 =>
aldN 4 t1 w5 fun t17 =>
acallF pr false t16 [t17] w5 (apn R) fun t18 w6 =>
abx [.val (.nilFunc)] w6 fun t7 w7 =>
ast 1 t7 (.fn 147 [] []) w7 fun w8 =>
ald1 t5 w8 fun t19 =>
ald1 t7 w8 fun t20 =>
acallW pr 151 [t19, t20] w8 (apn R) fun t21 w9 =>
ald1 t5 w9 fun t22 =>
acallW pr 152 [t22, .fn 153 [] [t7]] w9 (apn R) fun t24 w10 =>
R (.ret t24) w10)
theorem A100_eq : A100 = fun a0 L R => aex pr ⟨[], []⟩ (bodyOf fn100) (aenv0 [a0]) L (apost pr fn100.results.toList R) := by kernel_rfl
theorem s100 {a0 : D} {L : List Bx} {R : AE → List Bx → Prop} (h : A100 a0 L R) : ASpec pr 100 [a0] L R :=
  aspec_of (A := ⟨[], []⟩) (fn := fn100) 1 mixed Tryz.func100 (by kernel_rfl) (by decide) rfl (by kernel_rfl) (by rw [A100_eq] at h; exact h)
noncomputable abbrev fn146 : Func := Tryz.f146
def A146 (a0 a1 a2 : D) (L : List Bx) (R : AE → List Bx → Prop) : Prop :=
abxv a0 L fun t3 w1 =>
ajn (fun v3 w2 =>
afld 3 t3 fun t20 =>
ald1 t20 w2 fun t21 =>
alenL t21 fun t22 =>
alp [.i 0] w2 fun v4 w3 k4 =>
aar .lss (aix v4 0) t22 fun t24 =>
acnd t24 (aidxS 4 t21 (aix v4 0) fun t25 =>
aldN 4 t25 w3 fun t26 =>
abx [.i 0, .s ⟨#[]⟩, .i 0, .nil] w3 fun t5 w4 =>
ast 4 t5 t26 w4 fun w5 =>
ald1 a2 w5 fun t27 =>
aldN 4 t5 w5 fun t28 =>
acallF pr false t27 [t28] w5 (apn R) fun t29 w6 =>
aar .add (aix v4 0) (.i 1) fun t30 =>
k4 [t30] w6) (R (.ret (.tuple [])) w3)) fun j3 =>
afld 1 t3 fun t6 =>
ald1 t6 w1 fun t7 =>
aar .neq t7 (.s ⟨#[]⟩) fun t8 =>
acnd t8 (ald1 a1 w1 fun t9 =>
afld 1 t3 fun t10 =>
ald1 t10 w1 fun t11 =>
afld 0 t3 fun t12 =>
ald1 t12 w1 fun t13 =>
afld 1 t3 fun t14 =>
ald1 t14 w1 fun t15 =>
abld [.i 0, .s ⟨#[]⟩, .i 0, .nil] [(0, 1, t13), (1, 1, t15)] fun t16 =>
abld [.s ⟨#[]⟩, .i 0, .s ⟨#[]⟩, .i 0, .nil] [(0, 1, t11), (1, 4, t16)] fun t17 =>
abldS 68 5 1 [.s ⟨#[]⟩, .i 0, .s ⟨#[]⟩, .i 0, .nil] [(0, 5, t17)] w1 fun t18 w7 =>
aapp 68 5 72 t9 t18 w7 fun t19 w8 =>
ast 1 a1 t19 w8 fun w9 =>
j3 [] w9) (j3 [] w1)
theorem A146_eq : A146 = fun a0 a1 a2 L R => aex pr ⟨[(6, []), (9, [23])], []⟩ (bodyOf fn146) (aenv0 [a0, a1, a2]) L (apost pr fn146.results.toList R) := by kernel_rfl
theorem s146 {a0 a1 a2 : D} {L : List Bx} {R : AE → List Bx → Prop} (h : A146 a0 a1 a2 L R) : ASpec pr 146 [a0, a1, a2] L R :=
  aspec_of (A := ⟨[(6, []), (9, [23])], []⟩) (fn := fn146) 3 mixed Tryz.func146 (by kernel_rfl) (by decide) rfl (by kernel_rfl) (by rw [A146_eq] at h; exact h)
noncomputable abbrev fn147 : Func := Tryz.f147
def A147 (a0 a1 : D) (L : List Bx) (R : AE → List Bx → Prop) : Prop :=
abxv a0 L fun t2 w1 =>
abxv a1 w1 fun t3 w2 =>
afld 0 t2 fun t5 =>
ald1 t5 w2 fun t6 =>
afld 0 t3 fun t7 =>
ald1 t7 w2 fun t8 =>
acallS pr 149 [t6, t8] w2 (fun _ _ => False) fun t9 w3 =>
afld 1 t2 fun t10 =>
afld 0 t10 fun t11 =>
ald1 t11 w3 fun t12 =>
afld 1 t3 fun t13 =>
afld 0 t13 fun t14 =>
ald1 t14 w3 fun t15 =>
acallS pr 150 [t12, t15] w3 (fun _ _ => False) fun t16 w4 =>
abldF 1 2 [.i 0, .i 0] [(0, 1, t9), (1, 1, t16)] fun t17 =>
acallS pr 148 [t17] w4 (fun _ _ => False) fun t18 w5 =>
R (.ret t18) w5
theorem A147_eq : A147 = fun a0 a1 L R => aex pr ⟨[], [(1, [(0, 0), (1, 0), (2, 0), (3, 0), (4, 0), (5, 0), (6, 0), (7, 0), (8, 0), (9, 0), (10, 0), (11, 0), (12, 0), (13, 0), (14, 2)])]⟩ (bodyOf fn147) (aenv0 [a0, a1]) L (apost pr fn147.results.toList R) := by kernel_rfl
theorem s147 {a0 a1 : D} {L : List Bx} {R : AE → List Bx → Prop} (h : A147 a0 a1 L R) : ASpec pr 147 [a0, a1] L R :=
  aspec_of (A := ⟨[], [(1, [(0, 0), (1, 0), (2, 0), (3, 0), (4, 0), (5, 0), (6, 0), (7, 0), (8, 0), (9, 0), (10, 0), (11, 0), (12, 0), (13, 0), (14, 2)])]⟩) (fn := fn147) 2 mixed Tryz.func147 (by kernel_rfl) (by decide) rfl (by kernel_rfl) (by rw [A147_eq] at h; exact h)
noncomputable abbrev fn148 : Func := Tryz.f148
def A148 (a0 : D) (L : List Bx) (R : AE → List Bx → Prop) : Prop :=
alenL a0 fun t7 =>
alp [.i 0] L fun v3 w1 k3 =>
aar .lss (aix v3 0) t7 fun t9 =>
acnd t9 (aidxS 1 a0 (aix v3 0) fun t10 =>
ald1 t10 w1 fun t11 =>
aar .neq t11 (.i 0) fun t14 =>
acnd t14 (R (.ret t11) w1) (aar .add (aix v3 0) (.i 1) fun t16 =>
k3 [t16] w1)) (R (.ret (.i 0)) w1)
theorem A148_eq : A148 = fun a0 L R => aex pr ⟨[(7, [8])], []⟩ (bodyOf fn148) (aenv0 [a0]) L (apost pr fn148.results.toList R) := by kernel_rfl
theorem s148 {a0 : D} {L : List Bx} {R : AE → List Bx → Prop} (h : A148 a0 L R) : ASpec pr 148 [a0] L R :=
  aspec_of (A := ⟨[(7, [8])], []⟩) (fn := fn148) 1 mixed Tryz.func148 (by kernel_rfl) (by decide) rfl (by kernel_rfl) (by rw [A148_eq] at h; exact h)
noncomputable abbrev fn149 : Func := Tryz.f149
def A149 (a0 a1 : D) (L : List Bx) (R : AE → List Bx → Prop) : Prop :=
acallW pr 183 [a0] L (apn R) fun t8 w1 =>
acallW pr 183 [a1] w1 (apn R) fun t10 w2 =>
acnd t8 (acnd t10 (R (.ret (.i 0)) w2) (R (.ret (.i (-1))) w2)) (acnd t10 (R (.ret (.i 1)) w2) (aar .lss a0 a1 fun t16 =>
acnd t16 (R (.ret (.i (-1))) w2) (aar .gtr a0 a1 fun t19 =>
acnd t19 (R (.ret (.i 1)) w2) (R (.ret (.i 0)) w2))))
theorem A149_eq : A149 = fun a0 a1 L R => aex pr ⟨[], []⟩ (bodyOf fn149) (aenv0 [a0, a1]) L (apost pr fn149.results.toList R) := by kernel_rfl
theorem s149 {a0 a1 : D} {L : List Bx} {R : AE → List Bx → Prop} (h : A149 a0 a1 L R) : ASpec pr 149 [a0, a1] L R :=
  aspec_of (A := ⟨[], []⟩) (fn := fn149) 2 mixed Tryz.func149 (by kernel_rfl) (by decide) rfl (by kernel_rfl) (by rw [A149_eq] at h; exact h)
noncomputable abbrev fn150 : Func := Tryz.f150
def A150 (a0 a1 : D) (L : List Bx) (R : AE → List Bx → Prop) : Prop :=
acallW pr 184 [a0] L (apn R) fun t8 w1 =>
acallW pr 184 [a1] w1 (apn R) fun t10 w2 =>
acnd t8 (acnd t10 (R (.ret (.i 0)) w2) (R (.ret (.i (-1))) w2)) (acnd t10 (R (.ret (.i 1)) w2) (aar .lss a0 a1 fun t16 =>
acnd t16 (R (.ret (.i (-1))) w2) (aar .gtr a0 a1 fun t19 =>
acnd t19 (R (.ret (.i 1)) w2) (R (.ret (.i 0)) w2))))
theorem A150_eq : A150 = fun a0 a1 L R => aex pr ⟨[], []⟩ (bodyOf fn150) (aenv0 [a0, a1]) L (apost pr fn150.results.toList R) := by kernel_rfl
theorem s150 {a0 a1 : D} {L : List Bx} {R : AE → List Bx → Prop} (h : A150 a0 a1 L R) : ASpec pr 150 [a0, a1] L R :=
  aspec_of (A := ⟨[], []⟩) (fn := fn150) 2 mixed Tryz.func150 (by kernel_rfl) (by decide) rfl (by kernel_rfl) (by rw [A150_eq] at h; exact h)
noncomputable abbrev fn153 : Func := Tryz.f153
def A153 (a0 a1 a2 : D) (L : List Bx) (R : AE → List Bx → Prop) : Prop :=
abxv a0 L fun t3 w1 =>
abxv a1 w1 fun t4 w2 =>
ald1 a2 w2 fun t6 =>
aldN 5 t3 w2 fun t7 =>
aldN 5 t4 w2 fun t8 =>
acallF pr false t6 [t7, t8] w2 (apn R) fun t9 w3 =>
aar .eql t9 (.i 0) fun t10 =>
R (.ret t10) w3
theorem A153_eq : A153 = fun a0 a1 a2 L R => aex pr ⟨[], []⟩ (bodyOf fn153) (aenv0 [a0, a1, a2]) L (apost pr fn153.results.toList R) := by kernel_rfl
theorem s153 {a0 a1 a2 : D} {L : List Bx} {R : AE → List Bx → Prop} (h : A153 a0 a1 a2 L R) : ASpec pr 153 [a0, a1, a2] L R :=
  aspec_of (A := ⟨[], []⟩) (fn := fn153) 3 mixed Tryz.func153 (by kernel_rfl) (by decide) rfl (by kernel_rfl) (by rw [A153_eq] at h; exact h)
noncomputable abbrev fn152 : Func := Tryz.f152
def A152 (a0 a1 : D) (L : List Bx) (R : AE → List Bx → Prop) : Prop :=
alenL a0 fun t9 =>
aar .lss t9 (.i 2) fun t10 =>
acnd t10 (R (.ret a0) L) (alp [.i 1] L fun v4 w1 k4 =>
alenL a0 fun t14 =>
aar .lss (aix v4 0) t14 fun t15 =>
acnd t15 (aidxS 5 a0 (aix v4 0) fun t21 =>
aldN 5 t21 w1 fun t22 =>
aar .sub (aix v4 0) (.i 1) fun t25 =>
aidxS 5 a0 t25 fun t26 =>
aldN 5 t26 w1 fun t27 =>
acallF pr true a1 [t22, t27] w1 (fun _ _ => False) fun t28 w2 =>
acnd t28 (aslcL 5 a0 (some (aix v4 0)) none fun t31 =>
alp [aix v4 0, .i 1] w2 fun v9 w3 k9 =>
alenL t31 fun t34 =>
aar .lss (aix v9 1) t34 fun t35 =>
acnd t35 (aidxS 5 t31 (aix v9 1) fun t41 =>
aldN 5 t41 w3 fun t42 =>
aar .sub (aix v9 1) (.i 1) fun t45 =>
aidxS 5 t31 t45 fun t46 =>
aldN 5 t46 w3 fun t47 =>
acallF pr true a1 [t42, t47] w3 (fun _ _ => False) fun t48 w4 =>
anotb t48 fun t49 =>
acnd t49 (aidxS 5 t31 (aix v9 1) fun t54 =>
aldN 5 t54 w4 fun t55 =>
aidxS 5 a0 (aix v9 0) fun t56 =>
ast 5 t56 t55 w4 fun w5 =>
aar .add (aix v9 0) (.i 1) fun t58 =>
aar .add (aix v9 1) (.i 1) fun t37 =>
k9 [t58, t37] w5) (aar .add (aix v9 1) (.i 1) fun t37 =>
k9 [aix v9 0, t37] w4)) (aslcL 5 a0 (some (aix v9 0)) none fun t61 =>
aclr [.string ⟨#[]⟩, .int .i64 0, .string ⟨#[]⟩, .int .i64 0, .slice none 0 0] 5 t61 w3 fun w6 =>
aslcL 5 a0 none (some (aix v9 0)) fun t64 =>
R (.ret t64) w6)) (aar .add (aix v4 0) (.i 1) fun t17 =>
k4 [t17] w2)) (R (.ret a0) w1))
theorem A152_eq : A152 = fun a0 a1 L R => aex pr ⟨[(9, [5]), (19, [5, 7])], [(6, [(0, 0), (1, 0), (2, 0), (3, 0), (4, 0), (5, 0), (6, 0), (7, 0), (8, 0), (9, 0), (10, 0)]), (11, [(0, 0), (1, 0), (2, 0), (3, 0), (4, 0), (5, 0), (6, 0), (7, 0), (8, 0), (9, 0), (10, 0), (11, 0)])]⟩ (bodyOf fn152) (aenv0 [a0, a1]) L (apost pr fn152.results.toList R) := by kernel_rfl
theorem s152 {a0 a1 : D} {L : List Bx} {R : AE → List Bx → Prop} (h : A152 a0 a1 L R) : ASpec pr 152 [a0, a1] L R :=
  aspec_of (A := ⟨[(9, [5]), (19, [5, 7])], [(6, [(0, 0), (1, 0), (2, 0), (3, 0), (4, 0), (5, 0), (6, 0), (7, 0), (8, 0), (9, 0), (10, 0)]), (11, [(0, 0), (1, 0), (2, 0), (3, 0), (4, 0), (5, 0), (6, 0), (7, 0), (8, 0), (9, 0), (10, 0), (11, 0)])]⟩) (fn := fn152) 2 mixed Tryz.func152 (by kernel_rfl) (by decide) rfl (by kernel_rfl) (by rw [A152_eq] at h; exact h)
noncomputable abbrev fn183 : Func := Tryz.f183
def A183 (a0 : D) (L : List Bx) (R : AE → List Bx → Prop) : Prop :=
aar .neq a0 a0 fun t5 =>
R (.ret t5) L
theorem A183_eq : A183 = fun a0 L R => aex pr ⟨[], []⟩ (bodyOf fn183) (aenv0 [a0]) L (apost pr fn183.results.toList R) := by kernel_rfl
theorem s183 {a0 : D} {L : List Bx} {R : AE → List Bx → Prop} (h : A183 a0 L R) : ASpec pr 183 [a0] L R :=
  aspec_of (A := ⟨[], []⟩) (fn := fn183) 1 mixed Tryz.func183 (by kernel_rfl) (by decide) rfl (by kernel_rfl) (by rw [A183_eq] at h; exact h)
noncomputable abbrev fn184 : Func := Tryz.f184
def A184 (a0 : D) (L : List Bx) (R : AE → List Bx → Prop) : Prop :=
aar .neq a0 a0 fun t5 =>
R (.ret t5) L
theorem A184_eq : A184 = fun a0 L R => aex pr ⟨[], []⟩ (bodyOf fn184) (aenv0 [a0]) L (apost pr fn184.results.toList R) := by kernel_rfl
theorem s184 {a0 : D} {L : List Bx} {R : AE → List Bx → Prop} (h : A184 a0 L R) : ASpec pr 184 [a0] L R :=
  aspec_of (A := ⟨[], []⟩) (fn := fn184) 1 mixed Tryz.func184 (by kernel_rfl) (by decide) rfl (by kernel_rfl) (by rw [A184_eq] at h; exact h)
noncomputable abbrev fn182 : Func := Tryz.f182
def A182 (a0 a1 : D) (L : List Bx) (R : AE → List Bx → Prop) : Prop :=
alenL a0 fun t7 =>
alp [.i 0] L fun v2 w1 k2 =>
aar .lss (aix v2 0) t7 fun t9 =>
acnd t9 (aidxS 1 a0 (aix v2 0) fun t14 =>
ald1 t14 w1 fun t15 =>
aar .eql a1 t15 fun t16 =>
acnd t16 (R (.ret (aix v2 0)) w1) (aar .add (aix v2 0) (.i 1) fun t18 =>
k2 [t18] w1)) (R (.ret (.i (-1))) w1)
theorem A182_eq : A182 = fun a0 a1 L R => aex pr ⟨[(5, [8])], []⟩ (bodyOf fn182) (aenv0 [a0, a1]) L (apost pr fn182.results.toList R) := by kernel_rfl
theorem s182 {a0 a1 : D} {L : List Bx} {R : AE → List Bx → Prop} (h : A182 a0 a1 L R) : ASpec pr 182 [a0, a1] L R :=
  aspec_of (A := ⟨[(5, [8])], []⟩) (fn := fn182) 2 mixed Tryz.func182 (by kernel_rfl) (by decide) rfl (by kernel_rfl) (by rw [A182_eq] at h; exact h)
end Go.Proofs.YtdalobojhfafbaaGreatDoor
