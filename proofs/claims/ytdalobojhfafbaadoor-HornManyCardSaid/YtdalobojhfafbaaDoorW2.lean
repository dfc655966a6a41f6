/- What must hold ahead of a call, function by function: printed by a program. -/
import Derived.Test.YtdalobojhfafbaaDoorW1
import Derived.KernelRfl
set_option maxRecDepth 100000
set_option linter.unusedVariables false
namespace Go.Proofs.YtdalobojhfafbaaDoor
open Go Go.V
noncomputable abbrev fn32 : Func := Tryd.f32
/- ashlar/term.Names -/
def A32 (a0 : D) (L : List Bx) (R : AE → List Bx → Prop) : Prop :=
abxv a0 L fun t1 w1 =>
aldN 4 t1 w1 fun t9 =>
acallW pr 35 [t9] w1 (apn R) fun t10 w2 =>
aext 0 t10 fun t11 =>
aext 1 t10 fun t12 =>
aar .neq t12 (.i 0) fun t14 =>
acnd t14 (R (.ret (.nil)) w2) (abx [.nil] w2 fun t5 w3 =>
abx [.val (.nilFunc)] w3 fun t6 w4 =>
ast 1 t6 (.fn 42 [] [t5, t6]) w4 fun w5 =>
ald1 t6 w5 fun t16 =>
aldN 4 t1 w5 fun t17 =>
acallF pr false t16 [t17] w5 (apn R) fun t18 w6 =>
abx [.val (.nilFunc)] w6 fun t7 w7 =>
ast 1 t7 (.fn 43 [] []) w7 fun w8 =>
ald1 t5 w8 fun t19 =>
ald1 t7 w8 fun t20 =>
acallW pr 47 [t19, t20] w8 (apn R) fun t21 w9 =>
ald1 t5 w9 fun t22 =>
acallW pr 48 [t22, .fn 49 [] [t7]] w9 (apn R) fun t24 w10 =>
R (.ret t24) w10)
theorem A32_eq : A32 = fun a0 L R => aex pr ⟨[], []⟩ (bodyOf fn32) (aenv0 [a0]) L (apost pr fn32.results.toList R) := by kernel_rfl
theorem s32 {a0 : D} {L : List Bx} {R : AE → List Bx → Prop} (h : A32 a0 L R) : ASpec pr 32 [a0] L R :=
  aspec_of (A := ⟨[], []⟩) (fn := fn32) 1 mixed Tryd.func32 (by kernel_rfl) (by decide) rfl (by kernel_rfl) (by rw [A32_eq] at h; exact h)
noncomputable abbrev fn42 : Func := Tryd.f42
/- ashlar/term.Names$1 -/
def A42 (a0 a1 a2 : D) (L : List Bx) (R : AE → List Bx → Prop) : Prop :=
abxv a0 L fun t3 w1 =>
ajn (fun v3 w2 =>
afld 3 t3 fun t20 =>
ald1 t20 w2 fun t21 =>
alenL t21 fun t22 =>
alp [.i 0] w2 fun v4 w3 k4 =>
aar .lss (aix v4 0) t22 fun t24 =>
acnd t24 (aidxS 4 t21 (aix v4 0) fun t25 =>
aldN 4 t25 w3 fun t26 =>
abx [.i 0, .s ⟨#[]⟩, .i 0, .nil] w3 fun t5 w4 =>
ast 4 t5 t26 w4 fun w5 =>
ald1 a2 w5 fun t27 =>
aldN 4 t5 w5 fun t28 =>
acallF pr false t27 [t28] w5 (apn R) fun t29 w6 =>
aar .add (aix v4 0) (.i 1) fun t30 =>
k4 [t30] w6) (R (.ret (.tuple [])) w3)) fun j3 =>
afld 1 t3 fun t6 =>
ald1 t6 w1 fun t7 =>
aar .neq t7 (.s ⟨#[]⟩) fun t8 =>
acnd t8 (ald1 a1 w1 fun t9 =>
afld 1 t3 fun t10 =>
ald1 t10 w1 fun t11 =>
afld 0 t3 fun t12 =>
ald1 t12 w1 fun t13 =>
afld 1 t3 fun t14 =>
ald1 t14 w1 fun t15 =>
abld [.i 0, .s ⟨#[]⟩, .i 0, .nil] [(0, 1, t13), (1, 1, t15)] fun t16 =>
abld [.s ⟨#[]⟩, .i 0, .s ⟨#[]⟩, .i 0, .nil] [(0, 1, t11), (1, 4, t16)] fun t17 =>
abldS 67 5 1 [.s ⟨#[]⟩, .i 0, .s ⟨#[]⟩, .i 0, .nil] [(0, 5, t17)] w1 fun t18 w7 =>
aapp 67 5 72 t9 t18 w7 fun t19 w8 =>
ast 1 a1 t19 w8 fun w9 =>
j3 [] w9) (j3 [] w1)
theorem A42_eq : A42 = fun a0 a1 a2 L R => aex pr ⟨[(6, []), (9, [23])], []⟩ (bodyOf fn42) (aenv0 [a0, a1, a2]) L (apost pr fn42.results.toList R) := by kernel_rfl
theorem s42 {a0 a1 a2 : D} {L : List Bx} {R : AE → List Bx → Prop} (h : A42 a0 a1 a2 L R) : ASpec pr 42 [a0, a1, a2] L R :=
  aspec_of (A := ⟨[(6, []), (9, [23])], []⟩) (fn := fn42) 3 mixed Tryd.func42 (by kernel_rfl) (by decide) rfl (by kernel_rfl) (by rw [A42_eq] at h; exact h)
noncomputable abbrev fn43 : Func := Tryd.f43
/- ashlar/term.Names$2 -/
def A43 (a0 a1 : D) (L : List Bx) (R : AE → List Bx → Prop) : Prop :=
abxv a0 L fun t2 w1 =>
abxv a1 w1 fun t3 w2 =>
afld 0 t2 fun t5 =>
ald1 t5 w2 fun t6 =>
afld 0 t3 fun t7 =>
ald1 t7 w2 fun t8 =>
acallS pr 45 [t6, t8] w2 (fun _ _ => False) fun t9 w3 =>
afld 1 t2 fun t10 =>
afld 0 t10 fun t11 =>
ald1 t11 w3 fun t12 =>
afld 1 t3 fun t13 =>
afld 0 t13 fun t14 =>
ald1 t14 w3 fun t15 =>
acallS pr 46 [t12, t15] w3 (fun _ _ => False) fun t16 w4 =>
abldF 1 2 [.i 0, .i 0] [(0, 1, t9), (1, 1, t16)] fun t17 =>
acallS pr 44 [t17] w4 (fun _ _ => False) fun t18 w5 =>
R (.ret t18) w5
theorem A43_eq : A43 = fun a0 a1 L R => aex pr ⟨[], [(1, [(0, 0), (1, 0), (2, 0), (3, 0), (4, 0), (5, 0), (6, 0), (7, 0), (8, 0), (9, 0), (10, 0), (11, 0), (12, 0), (13, 0), (14, 2)])]⟩ (bodyOf fn43) (aenv0 [a0, a1]) L (apost pr fn43.results.toList R) := by kernel_rfl
theorem s43 {a0 a1 : D} {L : List Bx} {R : AE → List Bx → Prop} (h : A43 a0 a1 L R) : ASpec pr 43 [a0, a1] L R :=
  aspec_of (A := ⟨[], [(1, [(0, 0), (1, 0), (2, 0), (3, 0), (4, 0), (5, 0), (6, 0), (7, 0), (8, 0), (9, 0), (10, 0), (11, 0), (12, 0), (13, 0), (14, 2)])]⟩) (fn := fn43) 2 mixed Tryd.func43 (by kernel_rfl) (by decide) rfl (by kernel_rfl) (by rw [A43_eq] at h; exact h)
noncomputable abbrev fn44 : Func := Tryd.f44
/- cmp.Or[int] -/
def A44 (a0 : D) (L : List Bx) (R : AE → List Bx → Prop) : Prop :=
alenL a0 fun t7 =>
alp [.i 0] L fun v3 w1 k3 =>
aar .lss (aix v3 0) t7 fun t9 =>
acnd t9 (aidxS 1 a0 (aix v3 0) fun t10 =>
ald1 t10 w1 fun t11 =>
aar .neq t11 (.i 0) fun t14 =>
acnd t14 (R (.ret t11) w1) (aar .add (aix v3 0) (.i 1) fun t16 =>
k3 [t16] w1)) (R (.ret (.i 0)) w1)
theorem A44_eq : A44 = fun a0 L R => aex pr ⟨[(7, [8])], []⟩ (bodyOf fn44) (aenv0 [a0]) L (apost pr fn44.results.toList R) := by kernel_rfl
theorem s44 {a0 : D} {L : List Bx} {R : AE → List Bx → Prop} (h : A44 a0 L R) : ASpec pr 44 [a0] L R :=
  aspec_of (A := ⟨[(7, [8])], []⟩) (fn := fn44) 1 mixed Tryd.func44 (by kernel_rfl) (by decide) rfl (by kernel_rfl) (by rw [A44_eq] at h; exact h)
noncomputable abbrev fn45 : Func := Tryd.f45
/- cmp.Compare[string] -/
def A45 (a0 a1 : D) (L : List Bx) (R : AE → List Bx → Prop) : Prop :=
acallW pr 59 [a0] L (apn R) fun t8 w1 =>
acallW pr 59 [a1] w1 (apn R) fun t10 w2 =>
acnd t8 (acnd t10 (R (.ret (.i 0)) w2) (R (.ret (.i (-1))) w2)) (acnd t10 (R (.ret (.i 1)) w2) (aar .lss a0 a1 fun t16 =>
acnd t16 (R (.ret (.i (-1))) w2) (aar .gtr a0 a1 fun t19 =>
acnd t19 (R (.ret (.i 1)) w2) (R (.ret (.i 0)) w2))))
theorem A45_eq : A45 = fun a0 a1 L R => aex pr ⟨[], []⟩ (bodyOf fn45) (aenv0 [a0, a1]) L (apost pr fn45.results.toList R) := by kernel_rfl
theorem s45 {a0 a1 : D} {L : List Bx} {R : AE → List Bx → Prop} (h : A45 a0 a1 L R) : ASpec pr 45 [a0, a1] L R :=
  aspec_of (A := ⟨[], []⟩) (fn := fn45) 2 mixed Tryd.func45 (by kernel_rfl) (by decide) rfl (by kernel_rfl) (by rw [A45_eq] at h; exact h)
noncomputable abbrev fn46 : Func := Tryd.f46
/- cmp.Compare[int] -/
def A46 (a0 a1 : D) (L : List Bx) (R : AE → List Bx → Prop) : Prop :=
acallW pr 60 [a0] L (apn R) fun t8 w1 =>
acallW pr 60 [a1] w1 (apn R) fun t10 w2 =>
acnd t8 (acnd t10 (R (.ret (.i 0)) w2) (R (.ret (.i (-1))) w2)) (acnd t10 (R (.ret (.i 1)) w2) (aar .lss a0 a1 fun t16 =>
acnd t16 (R (.ret (.i (-1))) w2) (aar .gtr a0 a1 fun t19 =>
acnd t19 (R (.ret (.i 1)) w2) (R (.ret (.i 0)) w2))))
theorem A46_eq : A46 = fun a0 a1 L R => aex pr ⟨[], []⟩ (bodyOf fn46) (aenv0 [a0, a1]) L (apost pr fn46.results.toList R) := by kernel_rfl
theorem s46 {a0 a1 : D} {L : List Bx} {R : AE → List Bx → Prop} (h : A46 a0 a1 L R) : ASpec pr 46 [a0, a1] L R :=
  aspec_of (A := ⟨[], []⟩) (fn := fn46) 2 mixed Tryd.func46 (by kernel_rfl) (by decide) rfl (by kernel_rfl) (by rw [A46_eq] at h; exact h)
noncomputable abbrev fn49 : Func := Tryd.f49
/- ashlar/term.Names$3 -/
def A49 (a0 a1 a2 : D) (L : List Bx) (R : AE → List Bx → Prop) : Prop :=
abxv a0 L fun t3 w1 =>
abxv a1 w1 fun t4 w2 =>
ald1 a2 w2 fun t6 =>
aldN 5 t3 w2 fun t7 =>
aldN 5 t4 w2 fun t8 =>
acallF pr false t6 [t7, t8] w2 (apn R) fun t9 w3 =>
aar .eql t9 (.i 0) fun t10 =>
R (.ret t10) w3
theorem A49_eq : A49 = fun a0 a1 a2 L R => aex pr ⟨[], []⟩ (bodyOf fn49) (aenv0 [a0, a1, a2]) L (apost pr fn49.results.toList R) := by kernel_rfl
theorem s49 {a0 a1 a2 : D} {L : List Bx} {R : AE → List Bx → Prop} (h : A49 a0 a1 a2 L R) : ASpec pr 49 [a0, a1, a2] L R :=
  aspec_of (A := ⟨[], []⟩) (fn := fn49) 3 mixed Tryd.func49 (by kernel_rfl) (by decide) rfl (by kernel_rfl) (by rw [A49_eq] at h; exact h)
noncomputable abbrev fn48 : Func := Tryd.f48
/- slices.CompactFunc[[]ashlar/api.Assign,ashlar/api.Assign] -/
def A48 (a0 a1 : D) (L : List Bx) (R : AE → List Bx → Prop) : Prop :=
alenL a0 fun t9 =>
aar .lss t9 (.i 2) fun t10 =>
acnd t10 (R (.ret a0) L) (alp [.i 1] L fun v4 w1 k4 =>
alenL a0 fun t14 =>
aar .lss (aix v4 0) t14 fun t15 =>
acnd t15 (aidxS 5 a0 (aix v4 0) fun t21 =>
aldN 5 t21 w1 fun t22 =>
aar .sub (aix v4 0) (.i 1) fun t25 =>
aidxS 5 a0 t25 fun t26 =>
aldN 5 t26 w1 fun t27 =>
acallF pr true a1 [t22, t27] w1 (fun _ _ => False) fun t28 w2 =>
acnd t28 (aslcL 5 a0 (some (aix v4 0)) none fun t31 =>
alp [aix v4 0, .i 1] w2 fun v9 w3 k9 =>
alenL t31 fun t34 =>
aar .lss (aix v9 1) t34 fun t35 =>
acnd t35 (aidxS 5 t31 (aix v9 1) fun t41 =>
aldN 5 t41 w3 fun t42 =>
aar .sub (aix v9 1) (.i 1) fun t45 =>
aidxS 5 t31 t45 fun t46 =>
aldN 5 t46 w3 fun t47 =>
acallF pr true a1 [t42, t47] w3 (fun _ _ => False) fun t48 w4 =>
anotb t48 fun t49 =>
acnd t49 (aidxS 5 t31 (aix v9 1) fun t54 =>
aldN 5 t54 w4 fun t55 =>
aidxS 5 a0 (aix v9 0) fun t56 =>
ast 5 t56 t55 w4 fun w5 =>
aar .add (aix v9 0) (.i 1) fun t58 =>
aar .add (aix v9 1) (.i 1) fun t37 =>
k9 [t58, t37] w5) (aar .add (aix v9 1) (.i 1) fun t37 =>
k9 [aix v9 0, t37] w4)) (aslcL 5 a0 (some (aix v9 0)) none fun t61 =>
aclr [.string ⟨#[]⟩, .int .i64 0, .string ⟨#[]⟩, .int .i64 0, .slice none 0 0] 5 t61 w3 fun w6 =>
aslcL 5 a0 none (some (aix v9 0)) fun t64 =>
R (.ret t64) w6)) (aar .add (aix v4 0) (.i 1) fun t17 =>
k4 [t17] w2)) (R (.ret a0) w1))
theorem A48_eq : A48 = fun a0 a1 L R => aex pr ⟨[(9, [5]), (19, [5, 7])], [(6, [(0, 0), (1, 0), (2, 0), (3, 0), (4, 0), (5, 0), (6, 0), (7, 0), (8, 0), (9, 0), (10, 0)]), (11, [(0, 0), (1, 0), (2, 0), (3, 0), (4, 0), (5, 0), (6, 0), (7, 0), (8, 0), (9, 0), (10, 0), (11, 0)])]⟩ (bodyOf fn48) (aenv0 [a0, a1]) L (apost pr fn48.results.toList R) := by kernel_rfl
theorem s48 {a0 a1 : D} {L : List Bx} {R : AE → List Bx → Prop} (h : A48 a0 a1 L R) : ASpec pr 48 [a0, a1] L R :=
  aspec_of (A := ⟨[(9, [5]), (19, [5, 7])], [(6, [(0, 0), (1, 0), (2, 0), (3, 0), (4, 0), (5, 0), (6, 0), (7, 0), (8, 0), (9, 0), (10, 0)]), (11, [(0, 0), (1, 0), (2, 0), (3, 0), (4, 0), (5, 0), (6, 0), (7, 0), (8, 0), (9, 0), (10, 0), (11, 0)])]⟩) (fn := fn48) 2 mixed Tryd.func48 (by kernel_rfl) (by decide) rfl (by kernel_rfl) (by rw [A48_eq] at h; exact h)
noncomputable abbrev fn59 : Func := Tryd.f59
/- cmp.isNaN[string] -/
def A59 (a0 : D) (L : List Bx) (R : AE → List Bx → Prop) : Prop :=
aar .neq a0 a0 fun t5 =>
R (.ret t5) L
theorem A59_eq : A59 = fun a0 L R => aex pr ⟨[], []⟩ (bodyOf fn59) (aenv0 [a0]) L (apost pr fn59.results.toList R) := by kernel_rfl
theorem s59 {a0 : D} {L : List Bx} {R : AE → List Bx → Prop} (h : A59 a0 L R) : ASpec pr 59 [a0] L R :=
  aspec_of (A := ⟨[], []⟩) (fn := fn59) 1 mixed Tryd.func59 (by kernel_rfl) (by decide) rfl (by kernel_rfl) (by rw [A59_eq] at h; exact h)
noncomputable abbrev fn60 : Func := Tryd.f60
/- cmp.isNaN[int] -/
def A60 (a0 : D) (L : List Bx) (R : AE → List Bx → Prop) : Prop :=
aar .neq a0 a0 fun t5 =>
R (.ret t5) L
theorem A60_eq : A60 = fun a0 L R => aex pr ⟨[], []⟩ (bodyOf fn60) (aenv0 [a0]) L (apost pr fn60.results.toList R) := by kernel_rfl
theorem s60 {a0 : D} {L : List Bx} {R : AE → List Bx → Prop} (h : A60 a0 L R) : ASpec pr 60 [a0] L R :=
  aspec_of (A := ⟨[], []⟩) (fn := fn60) 1 mixed Tryd.func60 (by kernel_rfl) (by decide) rfl (by kernel_rfl) (by rw [A60_eq] at h; exact h)
noncomputable abbrev fn58 : Func := Tryd.f58
/- slices.Index[[]string,string] -/
def A58 (a0 a1 : D) (L : List Bx) (R : AE → List Bx → Prop) : Prop :=
alenL a0 fun t7 =>
alp [.i 0] L fun v2 w1 k2 =>
aar .lss (aix v2 0) t7 fun t9 =>
acnd t9 (aidxS 1 a0 (aix v2 0) fun t14 =>
ald1 t14 w1 fun t15 =>
aar .eql a1 t15 fun t16 =>
acnd t16 (R (.ret (aix v2 0)) w1) (aar .add (aix v2 0) (.i 1) fun t18 =>
k2 [t18] w1)) (R (.ret (.i (-1))) w1)
theorem A58_eq : A58 = fun a0 a1 L R => aex pr ⟨[(5, [8])], []⟩ (bodyOf fn58) (aenv0 [a0, a1]) L (apost pr fn58.results.toList R) := by kernel_rfl
theorem s58 {a0 a1 : D} {L : List Bx} {R : AE → List Bx → Prop} (h : A58 a0 a1 L R) : ASpec pr 58 [a0, a1] L R :=
  aspec_of (A := ⟨[(5, [8])], []⟩) (fn := fn58) 2 mixed Tryd.func58 (by kernel_rfl) (by decide) rfl (by kernel_rfl) (by rw [A58_eq] at h; exact h)
end Go.Proofs.YtdalobojhfafbaaDoor
