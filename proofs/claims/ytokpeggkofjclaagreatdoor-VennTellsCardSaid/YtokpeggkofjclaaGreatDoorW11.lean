/- What must hold ahead of a call, function by function: printed by a program. -/
import Derived.Test.YtokpeggkofjclaaGreatDoorW4
import Derived.KernelRfl
set_option maxRecDepth 100000
set_option linter.unusedVariables false
namespace Go.Proofs.YtokpeggkofjclaaGreatDoor
open Go Go.V
noncomputable abbrev fn52 : Func := Tryz.f52
/- ashlar/venn.in -/
def A52 (a0 a1 : D) (L : List Bx) (R : AE → List Bx → Prop) : Prop :=
aar .shr a0 a1 fun t7 =>
aar .and t7 (.i 1) fun t8 =>
aar .eql t8 (.i 1) fun t9 =>
R (.ret t9) L
theorem A52_eq : A52 = fun a0 a1 L R => aex pr ⟨[], []⟩ (bodyOf fn52) (aenv0 [a0, a1]) L (apost pr fn52.results.toList R) := by kernel_rfl
theorem s52 {a0 a1 : D} {L : List Bx} {R : AE → List Bx → Prop} (h : A52 a0 a1 L R) : ASpec pr 52 [a0, a1] L R :=
  aspec_of (A := ⟨[], []⟩) (fn := fn52) 2 mixed Tryz.func52 (by kernel_rfl) (by decide) rfl (by kernel_rfl) (by rw [A52_eq] at h; exact h)
noncomputable abbrev fn33 : Func := Tryz.f33
/- (ashlar/venn.Plan).circles -/
def A33 (a0 : D) (L : List Bx) (R : AE → List Bx → Prop) : Prop :=
abxv a0 L fun t1 w1 =>
afld 0 t1 fun t3 =>
ald1 t3 w1 fun t4 =>
alenL t4 fun t5 =>
afld 1 t1 fun t6 =>
ald1 t6 w1 fun t7 =>
alenL t7 fun t8 =>
aar .add t5 t8 fun t9 =>
R (.ret t9) w1
theorem A33_eq : A33 = fun a0 L R => aex pr ⟨[], []⟩ (bodyOf fn33) (aenv0 [a0]) L (apost pr fn33.results.toList R) := by kernel_rfl
theorem s33 {a0 : D} {L : List Bx} {R : AE → List Bx → Prop} (h : A33 a0 L R) : ASpec pr 33 [a0] L R :=
  aspec_of (A := ⟨[], []⟩) (fn := fn33) 1 mixed Tryz.func33 (by kernel_rfl) (by decide) rfl (by kernel_rfl) (by rw [A33_eq] at h; exact h)
noncomputable abbrev fn19 : Func := Tryz.f19
/- (ashlar/venn.Plan).Regions -/
def A19 (a0 : D) (L : List Bx) (R : AE → List Bx → Prop) : Prop :=
abxv a0 L fun t1 w1 =>
aldN 3 t1 w1 fun t3 =>
acallW pr 33 [t3] w1 (apn R) fun t4 w2 =>
amin2 t4 (.i 6) fun t5 =>
aar .shl (.i 1) t5 fun t6 =>
R (.ret t6) w2
theorem A19_eq : A19 = fun a0 L R => aex pr ⟨[], []⟩ (bodyOf fn19) (aenv0 [a0]) L (apost pr fn19.results.toList R) := by kernel_rfl
theorem s19 {a0 : D} {L : List Bx} {R : AE → List Bx → Prop} (h : A19 a0 L R) : ASpec pr 19 [a0] L R :=
  aspec_of (A := ⟨[], []⟩) (fn := fn19) 1 mixed Tryz.func19 (by kernel_rfl) (by decide) rfl (by kernel_rfl) (by rw [A19_eq] at h; exact h)
noncomputable abbrev fn21 : Func := Tryz.f21
/- (ashlar/venn.Plan).Unknowns -/
def A21 (a0 : D) (L : List Bx) (R : AE → List Bx → Prop) : Prop :=
abxv a0 L fun t1 w1 =>
aldN 3 t1 w1 fun t3 =>
acallS pr 19 [t3] w1 (fun _ _ => False) fun t4 w2 =>
afld 2 t1 fun t5 =>
ald1 t5 w2 fun t6 =>
alenL t6 fun t7 =>
aar .add t4 t7 fun t8 =>
R (.ret t8) w2
theorem A21_eq : A21 = fun a0 L R => aex pr ⟨[], [(1, [(0, 0), (1, 0), (2, 0), (3, 0), (4, 0), (5, 0), (6, 2)])]⟩ (bodyOf fn21) (aenv0 [a0]) L (apost pr fn21.results.toList R) := by kernel_rfl
theorem s21 {a0 : D} {L : List Bx} {R : AE → List Bx → Prop} (h : A21 a0 L R) : ASpec pr 21 [a0] L R :=
  aspec_of (A := ⟨[], [(1, [(0, 0), (1, 0), (2, 0), (3, 0), (4, 0), (5, 0), (6, 2)])]⟩) (fn := fn21) 1 mixed Tryz.func21 (by kernel_rfl) (by decide) rfl (by kernel_rfl) (by rw [A21_eq] at h; exact h)
noncomputable abbrev fn40 : Func := Tryz.f40
/- (ashlar/venn.Plan).row -/
def A40 (a0 a1 a2 a3 : D) (L : List Bx) (R : AE → List Bx → Prop) : Prop :=
abxv a0 L fun t4 w1 =>
abx [.nil, .i 0] w1 fun t8 w2 =>
aldN 3 t4 w2 fun t11 =>
acallW pr 21 [t11] w2 (apn R) fun t12 w3 =>
amkS 2 1 8 [.i 0] t12 t12 w3 fun t13 w4 =>
abld [.nil, .i 0] [(0, 1, t13), (1, 1, a2)] fun t15 =>
abx [.nil, .i 0] w4 fun t9 w5 =>
ast 2 t9 t15 w5 fun w6 =>
aldN 3 t4 w6 fun t16 =>
acallW pr 19 [t16] w6 (apn R) fun t17 w7 =>
alp [.i 0] w7 fun v3 w8 k3 =>
aar .lss (aix v3 0) t17 fun t19 =>
acnd t19 (acallF pr false a3 [aix v3 0] w8 (apn R) fun t23 w9 =>
acnd t23 (afld 0 t9 fun t24 =>
ald1 t24 w9 fun t25 =>
aidxS 1 t25 (aix v3 0) fun t28 =>
ast 1 t28 a1 w9 fun w10 =>
aar .add (aix v3 0) (.i 1) fun t29 =>
k3 [t29] w10) (aar .add (aix v3 0) (.i 1) fun t29 =>
k3 [t29] w9)) (aldN 2 t9 w8 fun t30 =>
ast 2 t8 t30 w8 fun w11 =>
aldN 2 t8 w11 fun r0 =>
R (.ret r0) w11)
theorem A40_eq : A40 = fun a0 a1 a2 a3 L R => aex pr ⟨[(7, [18])], []⟩ (bodyOf fn40) (aenv0 [a0, a1, a2, a3]) L (apost pr fn40.results.toList R) := by kernel_rfl
theorem s40 {a0 a1 a2 a3 : D} {L : List Bx} {R : AE → List Bx → Prop} (h : A40 a0 a1 a2 a3 L R) : ASpec pr 40 [a0, a1, a2, a3] L R :=
  aspec_of (A := ⟨[(7, [18])], []⟩) (fn := fn40) 4 mixed Tryz.func40 (by kernel_rfl) (by decide) rfl (by kernel_rfl) (by rw [A40_eq] at h; exact h)
noncomputable abbrev fn122 : Func := Tryz.f122
/- slices.Index[[]string,string] -/
def A122 (a0 a1 : D) (L : List Bx) (R : AE → List Bx → Prop) : Prop :=
alenL a0 fun t7 =>
alp [.i 0] L fun v2 w1 k2 =>
aar .lss (aix v2 0) t7 fun t9 =>
acnd t9 (aidxS 1 a0 (aix v2 0) fun t14 =>
ald1 t14 w1 fun t15 =>
aar .eql a1 t15 fun t16 =>
acnd t16 (R (.ret (aix v2 0)) w1) (aar .add (aix v2 0) (.i 1) fun t18 =>
k2 [t18] w1)) (R (.ret (.i (-1))) w1)
theorem A122_eq : A122 = fun a0 a1 L R => aex pr ⟨[(5, [8])], []⟩ (bodyOf fn122) (aenv0 [a0, a1]) L (apost pr fn122.results.toList R) := by kernel_rfl
theorem s122 {a0 a1 : D} {L : List Bx} {R : AE → List Bx → Prop} (h : A122 a0 a1 L R) : ASpec pr 122 [a0, a1] L R :=
  aspec_of (A := ⟨[(5, [8])], []⟩) (fn := fn122) 2 mixed Tryz.func122 (by kernel_rfl) (by decide) rfl (by kernel_rfl) (by rw [A122_eq] at h; exact h)
noncomputable abbrev fn83 : Func := Tryz.f83
/- ashlar/venn.place -/
def A83 (a0 a1 : D) (L : List Bx) (R : AE → List Bx → Prop) : Prop :=
acallW pr 122 [a0, a1] L (apn R) fun t8 w1 =>
aar .lss t8 (.i 0) fun t10 =>
acnd t10 (apn R (.ifc 78 (.i 4)) w1) (R (.ret t8) w1)
theorem A83_eq : A83 = fun a0 a1 L R => aex pr ⟨[], []⟩ (bodyOf fn83) (aenv0 [a0, a1]) L (apost pr fn83.results.toList R) := by kernel_rfl
theorem s83 {a0 a1 : D} {L : List Bx} {R : AE → List Bx → Prop} (h : A83 a0 a1 L R) : ASpec pr 83 [a0, a1] L R :=
  aspec_of (A := ⟨[], []⟩) (fn := fn83) 2 mixed Tryz.func83 (by kernel_rfl) (by decide) rfl (by kernel_rfl) (by rw [A83_eq] at h; exact h)
noncomputable abbrev fn123 : Func := Tryz.f123
/- (ashlar/venn.Plan).set$1 -/
def A123 (a0 a1 : D) (L : List Bx) (R : AE → List Bx → Prop) : Prop :=
ald1 a1 L fun t5 =>
acallW pr 52 [a0, t5] L (apn R) fun t6 w1 =>
R (.ret t6) w1
theorem A123_eq : A123 = fun a0 a1 L R => aex pr ⟨[], []⟩ (bodyOf fn123) (aenv0 [a0, a1]) L (apost pr fn123.results.toList R) := by kernel_rfl
theorem s123 {a0 a1 : D} {L : List Bx} {R : AE → List Bx → Prop} (h : A123 a0 a1 L R) : ASpec pr 123 [a0, a1] L R :=
  aspec_of (A := ⟨[], []⟩) (fn := fn123) 2 mixed Tryz.func123 (by kernel_rfl) (by decide) rfl (by kernel_rfl) (by rw [A123_eq] at h; exact h)
noncomputable abbrev fn124 : Func := Tryz.f124
/- (ashlar/venn.Plan).set$2 -/
def A124 (a0 a1 : D) (L : List Bx) (R : AE → List Bx → Prop) : Prop :=
ald1 a1 L fun t5 =>
acallW pr 52 [a0, t5] L (apn R) fun t6 w1 =>
R (.ret t6) w1
theorem A124_eq : A124 = fun a0 a1 L R => aex pr ⟨[], []⟩ (bodyOf fn124) (aenv0 [a0, a1]) L (apost pr fn124.results.toList R) := by kernel_rfl
theorem s124 {a0 a1 : D} {L : List Bx} {R : AE → List Bx → Prop} (h : A124 a0 a1 L R) : ASpec pr 124 [a0, a1] L R :=
  aspec_of (A := ⟨[], []⟩) (fn := fn124) 2 mixed Tryz.func124 (by kernel_rfl) (by decide) rfl (by kernel_rfl) (by rw [A124_eq] at h; exact h)
noncomputable abbrev fn125 : Func := Tryz.f125
/- (ashlar/venn.Plan).set$3 -/
def A125 (a0 a1 : D) (L : List Bx) (R : AE → List Bx → Prop) : Prop :=
afld 0 a1 fun t4 =>
ald1 t4 L fun t5 =>
aar .eql t5 (.i 9) fun t6 =>
R (.ret t6) L
theorem A125_eq : A125 = fun a0 a1 L R => aex pr ⟨[], []⟩ (bodyOf fn125) (aenv0 [a0, a1]) L (apost pr fn125.results.toList R) := by kernel_rfl
theorem s125 {a0 a1 : D} {L : List Bx} {R : AE → List Bx → Prop} (h : A125 a0 a1 L R) : ASpec pr 125 [a0, a1] L R :=
  aspec_of (A := ⟨[], []⟩) (fn := fn125) 2 mixed Tryz.func125 (by kernel_rfl) (by decide) rfl (by kernel_rfl) (by rw [A125_eq] at h; exact h)
noncomputable abbrev fn126 : Func := Tryz.f126
/- (ashlar/venn.Plan).set$4 -/
def A126 (a0 a1 a2 : D) (L : List Bx) (R : AE → List Bx → Prop) : Prop :=
ald1 a1 L fun t5 =>
acallF pr false t5 [a0] L (apn R) fun t7 w1 =>
acnd t7 (R (.ret (.b true)) w1) (ald1 a2 w1 fun t9 =>
acallF pr false t9 [a0] w1 (apn R) fun t11 w2 =>
R (.ret t11) w2)
theorem A126_eq : A126 = fun a0 a1 a2 L R => aex pr ⟨[], []⟩ (bodyOf fn126) (aenv0 [a0, a1, a2]) L (apost pr fn126.results.toList R) := by kernel_rfl
theorem s126 {a0 a1 a2 : D} {L : List Bx} {R : AE → List Bx → Prop} (h : A126 a0 a1 a2 L R) : ASpec pr 126 [a0, a1, a2] L R :=
  aspec_of (A := ⟨[], []⟩) (fn := fn126) 3 mixed Tryz.func126 (by kernel_rfl) (by decide) rfl (by kernel_rfl) (by rw [A126_eq] at h; exact h)
noncomputable abbrev fn127 : Func := Tryz.f127
/- (ashlar/venn.Plan).set$5 -/
def A127 (a0 a1 a2 : D) (L : List Bx) (R : AE → List Bx → Prop) : Prop :=
ald1 a1 L fun t5 =>
acallF pr false t5 [a0] L (apn R) fun t7 w1 =>
acnd t7 (ald1 a2 w1 fun t9 =>
acallF pr false t9 [a0] w1 (apn R) fun t11 w2 =>
R (.ret t11) w2) (R (.ret (.b false)) w1)
theorem A127_eq : A127 = fun a0 a1 a2 L R => aex pr ⟨[], []⟩ (bodyOf fn127) (aenv0 [a0, a1, a2]) L (apost pr fn127.results.toList R) := by kernel_rfl
theorem s127 {a0 a1 a2 : D} {L : List Bx} {R : AE → List Bx → Prop} (h : A127 a0 a1 a2 L R) : ASpec pr 127 [a0, a1, a2] L R :=
  aspec_of (A := ⟨[], []⟩) (fn := fn127) 3 mixed Tryz.func127 (by kernel_rfl) (by decide) rfl (by kernel_rfl) (by rw [A127_eq] at h; exact h)
noncomputable abbrev fn128 : Func := Tryz.f128
/- (ashlar/venn.Plan).set$6 -/
def A128 (a0 a1 a2 : D) (L : List Bx) (R : AE → List Bx → Prop) : Prop :=
ald1 a1 L fun t5 =>
acallF pr false t5 [a0] L (apn R) fun t7 w1 =>
acnd t7 (ald1 a2 w1 fun t9 =>
acallF pr false t9 [a0] w1 (apn R) fun t11 w2 =>
anotb t11 fun t12 =>
R (.ret t12) w2) (R (.ret (.b false)) w1)
theorem A128_eq : A128 = fun a0 a1 a2 L R => aex pr ⟨[], []⟩ (bodyOf fn128) (aenv0 [a0, a1, a2]) L (apost pr fn128.results.toList R) := by kernel_rfl
theorem s128 {a0 a1 a2 : D} {L : List Bx} {R : AE → List Bx → Prop} (h : A128 a0 a1 a2 L R) : ASpec pr 128 [a0, a1, a2] L R :=
  aspec_of (A := ⟨[], []⟩) (fn := fn128) 3 mixed Tryz.func128 (by kernel_rfl) (by decide) rfl (by kernel_rfl) (by rw [A128_eq] at h; exact h)
noncomputable abbrev fn84 : Func := Tryz.f84
/- (ashlar/venn.Plan).set -/
def A84 (a0 a1 : D) (L : List Bx) (R : AE → List Bx → Prop) : Prop :=
abxv a0 L fun t2 w1 =>
abxv a1 w1 fun t3 w2 =>
ajn (fun v11 w3 =>
aldN 3 t2 w3 fun t38 =>
afld 3 t3 fun t39 =>
ald1 t39 w3 fun t40 =>
aidxS 4 t40 (.i 0) fun t41 =>
aldN 4 t41 w3 fun t42 =>
acallS pr 84 [t38, t42] w3 (apn R) fun t43 w4 =>
abx [.val (.nilFunc)] w4 fun t7 w5 =>
ast 1 t7 t43 w5 fun w6 =>
aldN 3 t2 w6 fun t44 =>
afld 3 t3 fun t45 =>
ald1 t45 w6 fun t46 =>
aidxS 4 t46 (.i 1) fun t47 =>
aldN 4 t47 w6 fun t48 =>
acallS pr 84 [t44, t48] w6 (apn R) fun t49 w7 =>
abx [.val (.nilFunc)] w7 fun t8 w8 =>
ast 1 t8 t49 w8 fun w9 =>
afld 0 t3 fun t50 =>
ald1 t50 w9 fun t51 =>
aar .eql t51 (.i 11) fun t53 =>
acnd t53 (R (.ret (.fn 126 [] [t7, t8])) w9) (aar .eql t51 (.i 12) fun t56 =>
acnd t56 (R (.ret (.fn 127 [] [t7, t8])) w9) (R (.ret (.fn 128 [] [t7, t8])) w9))) fun j11 =>
afld 0 t3 fun t9 =>
ald1 t9 w2 fun t10 =>
aar .eql t10 (.i 7) fun t12 =>
acnd t12 (afld 0 t2 fun t13 =>
ald1 t13 w2 fun t14 =>
afld 1 t3 fun t15 =>
ald1 t15 w2 fun t16 =>
acallW pr 83 [t14, t16] w2 (apn R) fun t17 w10 =>
abx [.i 0] w10 fun t5 w11 =>
ast 1 t5 t17 w11 fun w12 =>
R (.ret (.fn 123 [] [t5])) w12) (aar .eql t10 (.i 10) fun t20 =>
acnd t20 (afld 0 t2 fun t21 =>
ald1 t21 w2 fun t22 =>
alenL t22 fun t23 =>
afld 1 t2 fun t24 =>
ald1 t24 w2 fun t25 =>
afld 3 t3 fun t26 =>
ald1 t26 w2 fun t27 =>
aidxS 4 t27 (.i 0) fun t28 =>
afld 1 t28 fun t29 =>
ald1 t29 w2 fun t30 =>
acallS pr 83 [t25, t30] w2 (apn R) fun t31 w13 =>
aar .add t23 t31 fun t32 =>
abx [.i 0] w13 fun t6 w14 =>
ast 1 t6 t32 w14 fun w15 =>
R (.ret (.fn 124 [] [t6])) w15) (aar .eql t10 (.i 8) fun t35 =>
acnd t35 (acnd t35 (R (.ret (.fn 125 [] [t3])) w2) (j11 [] w2)) (aar .eql t10 (.i 9) fun t36 =>
acnd t36 (R (.ret (.fn 125 [] [t3])) w2) (j11 [] w2))))
theorem A84_eq : A84 = fun a0 a1 L R => aex pr ⟨[(22, [])], [(6, [(0, 0), (1, 0), (2, 0), (3, 0), (4, 0), (5, 0), (6, 0), (7, 0), (8, 0), (9, 0), (10, 6), (11, 0), (12, 3), (13, 2)]), (11, [(0, 0), (1, 0), (2, 0), (3, 0), (4, 0), (5, 6), (6, 3), (7, 2)]), (12, [(0, 0), (1, 0), (2, 0), (3, 0), (4, 0), (5, 6), (6, 3), (7, 2)])]⟩ (bodyOf fn84) (aenv0 [a0, a1]) L (apost pr fn84.results.toList R) := by kernel_rfl
theorem s84 {a0 a1 : D} {L : List Bx} {R : AE → List Bx → Prop} (h : A84 a0 a1 L R) : ASpec pr 84 [a0, a1] L R :=
  aspec_of (A := ⟨[(22, [])], [(6, [(0, 0), (1, 0), (2, 0), (3, 0), (4, 0), (5, 0), (6, 0), (7, 0), (8, 0), (9, 0), (10, 6), (11, 0), (12, 3), (13, 2)]), (11, [(0, 0), (1, 0), (2, 0), (3, 0), (4, 0), (5, 6), (6, 3), (7, 2)]), (12, [(0, 0), (1, 0), (2, 0), (3, 0), (4, 0), (5, 6), (6, 3), (7, 2)])]⟩) (fn := fn84) 2 mixed Tryz.func84 (by kernel_rfl) (by decide) rfl (by kernel_rfl) (by rw [A84_eq] at h; exact h)
noncomputable abbrev fn87 : Func := Tryz.f87
/- ashlar/venn.number -/
def A87 (a0 a1 : D) (L : List Bx) (R : AE → List Bx → Prop) : Prop :=
anotb a1 fun t6 =>
acnd t6 (apn R (.ifc 78 (.i 5)) L) (R (.ret a0) L)
theorem A87_eq : A87 = fun a0 a1 L R => aex pr ⟨[], []⟩ (bodyOf fn87) (aenv0 [a0, a1]) L (apost pr fn87.results.toList R) := by kernel_rfl
theorem s87 {a0 a1 : D} {L : List Bx} {R : AE → List Bx → Prop} (h : A87 a0 a1 L R) : ASpec pr 87 [a0, a1] L R :=
  aspec_of (A := ⟨[], []⟩) (fn := fn87) 2 mixed Tryz.func87 (by kernel_rfl) (by decide) rfl (by kernel_rfl) (by rw [A87_eq] at h; exact h)
noncomputable abbrev fn38 : Func := Tryz.f38
/- ashlar/venn.joined -/
def A38 (a0 a1 a2 : D) (L : List Bx) (R : AE → List Bx → Prop) : Prop :=
abxv a0 L fun t3 w1 =>
abxv a1 w1 fun t4 w2 =>
abx [.nil, .i 0] w2 fun t6 w3 =>
afld 0 t3 fun t9 =>
ald1 t9 w3 fun t10 =>
alenL t10 fun t11 =>
amkS 2 1 8 [.i 0] t11 t11 w3 fun t12 w4 =>
abld [.nil, .i 0] [(0, 1, t12)] fun t13 =>
abx [.nil, .i 0] w4 fun t7 w5 =>
ast 2 t7 t13 w5 fun w6 =>
afld 0 t3 fun t14 =>
ald1 t14 w6 fun t15 =>
alenL t15 fun t16 =>
alp [.i 0] w6 fun v3 w7 k3 =>
aar .lss (aix v3 0) t16 fun t18 =>
acnd t18 (afld 0 t7 fun t20 =>
ald1 t20 w7 fun t21 =>
afld 0 t3 fun t24 =>
ald1 t24 w7 fun t25 =>
aidxS 1 t25 (aix v3 0) fun t27 =>
ald1 t27 w7 fun t28 =>
afld 0 t4 fun t29 =>
ald1 t29 w7 fun t30 =>
aidxS 1 t30 (aix v3 0) fun t32 =>
ald1 t32 w7 fun t33 =>
acallF pr true a2 [t28, t33] w7 (fun _ _ => False) fun t34 w8 =>
aext 0 t34 fun t35 =>
aext 1 t34 fun t36 =>
acallS pr 87 [t35, t36] w8 (apn R) fun t37 w9 =>
aidxS 1 t21 (aix v3 0) fun t38 =>
ast 1 t38 t37 w9 fun w10 =>
aar .add (aix v3 0) (.i 1) fun t39 =>
k3 [t39] w10) (afld 1 t3 fun t41 =>
ald1 t41 w7 fun t42 =>
afld 1 t4 fun t43 =>
ald1 t43 w7 fun t44 =>
acallF pr false a2 [t42, t44] w7 (apn R) fun t45 w11 =>
aext 0 t45 fun t46 =>
aext 1 t45 fun t47 =>
acallW pr 87 [t46, t47] w11 (apn R) fun t48 w12 =>
afld 1 t7 fun t49 =>
ast 1 t49 t48 w12 fun w13 =>
aldN 2 t7 w13 fun t50 =>
ast 2 t6 t50 w13 fun w14 =>
aldN 2 t6 w14 fun r0 =>
R (.ret r0) w14)
theorem A38_eq : A38 = fun a0 a1 a2 L R => aex pr ⟨[(7, [17])], [(5, [(0, 0), (1, 0), (2, 0), (3, 0), (4, 0), (5, 0), (6, 0), (7, 0), (8, 0), (9, 0), (10, 0), (11, 0), (12, 0), (13, 0), (14, 0), (15, 0), (16, 0), (17, 1), (18, 0), (19, 2)])]⟩ (bodyOf fn38) (aenv0 [a0, a1, a2]) L (apost pr fn38.results.toList R) := by kernel_rfl
theorem s38 {a0 a1 a2 : D} {L : List Bx} {R : AE → List Bx → Prop} (h : A38 a0 a1 a2 L R) : ASpec pr 38 [a0, a1, a2] L R :=
  aspec_of (A := ⟨[(7, [17])], [(5, [(0, 0), (1, 0), (2, 0), (3, 0), (4, 0), (5, 0), (6, 0), (7, 0), (8, 0), (9, 0), (10, 0), (11, 0), (12, 0), (13, 0), (14, 0), (15, 0), (16, 0), (17, 1), (18, 0), (19, 2)])]⟩) (fn := fn38) 3 mixed Tryz.func38 (by kernel_rfl) (by decide) rfl (by kernel_rfl) (by rw [A38_eq] at h; exact h)
noncomputable abbrev fn82 : Func := Tryz.f82
/- (ashlar/venn.Plan).line$1 -/
def A82 (a0 : D) (L : List Bx) (R : AE → List Bx → Prop) : Prop :=
R (.ret (.b false)) L
theorem A82_eq : A82 = fun a0 L R => aex pr ⟨[], []⟩ (bodyOf fn82) (aenv0 [a0]) L (apost pr fn82.results.toList R) := by kernel_rfl
theorem s82 {a0 : D} {L : List Bx} {R : AE → List Bx → Prop} (h : A82 a0 L R) : ASpec pr 82 [a0] L R :=
  aspec_of (A := ⟨[], []⟩) (fn := fn82) 1 mixed Tryz.func82 (by kernel_rfl) (by decide) rfl (by kernel_rfl) (by rw [A82_eq] at h; exact h)
noncomputable abbrev fn85 : Func := Tryz.f85
/- (ashlar/venn.Plan).line$2 -/
def A85 (a0 a1 a2 : D) (L : List Bx) (R : AE → List Bx → Prop) : Prop :=
afld 2 a2 fun t7 =>
ald1 t7 L fun t8 =>
acallW pr 86 [t8, a0] L (apn R) fun t10 w1 =>
aext 0 t10 fun t11 =>
aext 1 t10 fun t12 =>
R (.ret (.tuple [t11, t12])) w1
theorem A85_eq : A85 = fun a0 a1 a2 L R => aex pr ⟨[], []⟩ (bodyOf fn85) (aenv0 [a0, a1, a2]) L (apost pr fn85.results.toList R) := by kernel_rfl
theorem s85 {a0 a1 a2 : D} {L : List Bx} {R : AE → List Bx → Prop} (h : A85 a0 a1 a2 L R) : ASpec pr 85 [a0, a1, a2] L R :=
  aspec_of (A := ⟨[], []⟩) (fn := fn85) 3 mixed Tryz.func85 (by kernel_rfl) (by decide) rfl (by kernel_rfl) (by rw [A85_eq] at h; exact h)
noncomputable abbrev fn37 : Func := Tryz.f37
/- (ashlar/venn.Plan).line -/
def A37 (a0 a1 : D) (L : List Bx) (R : AE → List Bx → Prop) : Prop :=
abxv a0 L fun t2 w1 =>
abxv a1 w1 fun t3 w2 =>
abx [.nil, .i 0] w2 fun t4 w3 =>
afld 0 t3 fun t10 =>
ald1 t10 w3 fun t11 =>
aar .eql t11 (.i 1) fun t13 =>
acnd t13 (aldN 3 t2 w3 fun t14 =>
afld 2 t3 fun t15 =>
ald1 t15 w3 fun t16 =>
acallW pr 40 [t14, .i 0, t16, .fn 82 [] []] w3 (apn R) fun t18 w4 =>
ast 2 t4 t18 w4 fun w5 =>
aldN 2 t4 w5 fun r0 =>
R (.ret r0) w5) (aar .eql t11 (.i 2) fun t20 =>
acnd t20 (aldN 3 t2 w3 fun t21 =>
acallW pr 40 [t21, .i 0, .i 0, .fn 82 [] []] w3 (apn R) fun t23 w6 =>
abx [.nil, .i 0] w6 fun t6 w7 =>
ast 2 t6 t23 w7 fun w8 =>
afld 0 t6 fun t24 =>
ald1 t24 w8 fun t25 =>
aldN 3 t2 w8 fun t26 =>
acallS pr 19 [t26] w8 (fun _ _ => False) fun t27 w9 =>
afld 2 t2 fun t28 =>
ald1 t28 w9 fun t29 =>
afld 1 t3 fun t30 =>
ald1 t30 w9 fun t31 =>
acallS pr 83 [t29, t31] w9 (apn R) fun t32 w10 =>
aar .add t27 t32 fun t33 =>
aidxS 1 t25 t33 fun t34 =>
ast 1 t34 (.i 1) w10 fun w11 =>
aldN 2 t6 w11 fun t35 =>
ast 2 t4 t35 w11 fun w12 =>
aldN 2 t4 w12 fun r0 =>
R (.ret r0) w12) (aar .eql t11 (.i 3) fun t37 =>
acnd t37 (aldN 3 t2 w3 fun t38 =>
aldN 3 t2 w3 fun t39 =>
afld 3 t3 fun t40 =>
ald1 t40 w3 fun t41 =>
aidxS 4 t41 (.i 0) fun t42 =>
aldN 4 t42 w3 fun t43 =>
acallS pr 84 [t39, t43] w3 (apn R) fun t44 w13 =>
acallS pr 40 [t38, .i 1, .i 0, t44] w13 (fun _ _ => False) fun t45 w14 =>
ast 2 t4 t45 w14 fun w15 =>
aldN 2 t4 w15 fun r0 =>
R (.ret r0) w15) (aar .eql t11 (.i 6) fun t47 =>
acnd t47 (aldN 3 t2 w3 fun t48 =>
afld 3 t3 fun t49 =>
ald1 t49 w3 fun t50 =>
aidxS 4 t50 (.i 0) fun t51 =>
aldN 4 t51 w3 fun t52 =>
acallS pr 37 [t48, t52] w3 (apn R) fun t53 w16 =>
abx [.nil, .i 0] w16 fun t7 w17 =>
ast 2 t7 t53 w17 fun w18 =>
aldN 2 t7 w18 fun t54 =>
aldN 2 t7 w18 fun t55 =>
acallW pr 38 [t54, t55, .fn 85 [] [t3]] w18 (apn R) fun t57 w19 =>
ast 2 t4 t57 w19 fun w20 =>
aldN 2 t4 w20 fun r0 =>
R (.ret r0) w20) (aldN 3 t2 w3 fun t58 =>
afld 3 t3 fun t59 =>
ald1 t59 w3 fun t60 =>
aidxS 4 t60 (.i 0) fun t61 =>
aldN 4 t61 w3 fun t62 =>
acallS pr 37 [t58, t62] w3 (apn R) fun t63 w21 =>
abx [.nil, .i 0] w21 fun t8 w22 =>
ast 2 t8 t63 w22 fun w23 =>
aldN 3 t2 w23 fun t64 =>
afld 3 t3 fun t65 =>
ald1 t65 w23 fun t66 =>
aidxS 4 t66 (.i 1) fun t67 =>
aldN 4 t67 w23 fun t68 =>
acallS pr 37 [t64, t68] w23 (apn R) fun t69 w24 =>
abx [.nil, .i 0] w24 fun t9 w25 =>
ast 2 t9 t69 w25 fun w26 =>
afld 0 t3 fun t70 =>
ald1 t70 w26 fun t71 =>
aar .eql t71 (.i 4) fun t72 =>
acnd t72 (aldN 2 t8 w26 fun t73 =>
aldN 2 t9 w26 fun t74 =>
acallW pr 38 [t73, t74, .fn 42 [] []] w26 (apn R) fun t75 w27 =>
ast 2 t4 t75 w27 fun w28 =>
aldN 2 t4 w28 fun r0 =>
R (.ret r0) w28) (aldN 2 t8 w26 fun t76 =>
aldN 2 t9 w26 fun t77 =>
acallW pr 38 [t76, t77, .fn 39 [] []] w26 (apn R) fun t78 w29 =>
ast 2 t4 t78 w29 fun w30 =>
aldN 2 t4 w30 fun r0 =>
R (.ret r0) w30)))))
theorem A37_eq : A37 = fun a0 a1 L R => aex pr ⟨[], [(7, [(0, 0), (1, 0), (2, 0), (3, 0), (4, 0), (5, 0), (6, 0), (7, 0), (8, 1), (9, 0), (10, 0), (11, 2)]), (10, [(0, 0), (1, 0), (2, 0), (3, 0), (4, 0), (5, 0), (6, 1), (7, 0), (8, 2)]), (12, [(0, 0), (1, 0), (2, 0), (3, 0), (4, 0), (5, 6), (6, 3), (7, 2)]), (14, [(0, 0), (1, 0), (2, 0), (3, 0), (4, 0), (5, 6), (6, 3), (7, 2)]), (15, [(0, 0), (1, 0), (2, 0), (3, 0), (4, 0), (5, 6), (6, 3), (7, 2)])]⟩ (bodyOf fn37) (aenv0 [a0, a1]) L (apost pr fn37.results.toList R) := by kernel_rfl
theorem s37 {a0 a1 : D} {L : List Bx} {R : AE → List Bx → Prop} (h : A37 a0 a1 L R) : ASpec pr 37 [a0, a1] L R :=
  aspec_of (A := ⟨[], [(7, [(0, 0), (1, 0), (2, 0), (3, 0), (4, 0), (5, 0), (6, 0), (7, 0), (8, 1), (9, 0), (10, 0), (11, 2)]), (10, [(0, 0), (1, 0), (2, 0), (3, 0), (4, 0), (5, 0), (6, 1), (7, 0), (8, 2)]), (12, [(0, 0), (1, 0), (2, 0), (3, 0), (4, 0), (5, 6), (6, 3), (7, 2)]), (14, [(0, 0), (1, 0), (2, 0), (3, 0), (4, 0), (5, 6), (6, 3), (7, 2)]), (15, [(0, 0), (1, 0), (2, 0), (3, 0), (4, 0), (5, 6), (6, 3), (7, 2)])]⟩) (fn := fn37) 2 mixed Tryz.func37 (by kernel_rfl) (by decide) rfl (by kernel_rfl) (by rw [A37_eq] at h; exact h)
noncomputable abbrev fn36 : Func := Tryz.f36
/- (ashlar/venn.Plan).Row$1 -/
def A36 (a0 a1 : D) (m : Option D) (L : List Bx) (R : Option D → List Bx → Prop) : Prop :=
aeqI .neq ((recD m)) (.val (.nilIface)) fun t7 =>
acnd t7 (atas 78 (.i 0) ((recD m)) true fun t10 =>
aext 0 t10 fun t11 =>
aext 1 t10 fun t12 =>
anotb t12 fun t14 =>
acnd t14 (apnF ((recD m))) (abld [.nil, .i 0] [] fun t16 =>
ast 2 a0 t16 L fun w1 =>
ast 1 a1 t11 w1 fun w2 =>
R none w2)) (R none L)
theorem A36_eq : A36 = fun a0 a1 m L R => aexR pr ⟨[], []⟩ R m (bodyOf fn36) (aenv0 [a0, a1]) L := by kernel_rfl
theorem s36 {a0 a1 : D} {m : Option D} {L : List Bx} {R : Option D → List Bx → Prop} (h : A36 a0 a1 m L R) : ADef pr 36 [a0, a1] m L R :=
  adef_of (A := ⟨[], []⟩) (fn := fn36) 2 mixed Tryz.func36 (by kernel_rfl) (by decide) rfl rfl (by kernel_rfl) (by rw [A36_eq] at h; exact h)
noncomputable abbrev fn41 : Func := Tryz.f41
/- (ashlar/venn.Plan).Row$2 -/
def A41 (a0 : D) (L : List Bx) (R : AE → List Bx → Prop) : Prop :=
R (.ret (.b false)) L
theorem A41_eq : A41 = fun a0 L R => aex pr ⟨[], []⟩ (bodyOf fn41) (aenv0 [a0]) L (apost pr fn41.results.toList R) := by kernel_rfl
theorem s41 {a0 : D} {L : List Bx} {R : AE → List Bx → Prop} (h : A41 a0 L R) : ASpec pr 41 [a0] L R :=
  aspec_of (A := ⟨[], []⟩) (fn := fn41) 1 mixed Tryz.func41 (by kernel_rfl) (by decide) rfl (by kernel_rfl) (by rw [A41_eq] at h; exact h)
noncomputable abbrev fn10 : Func := Tryz.f10
/- ashlar/venn.Make -/
def A10 (a0 : D) (L : List Bx) (R : AE → List Bx → Prop) : Prop :=
abxv a0 L fun t1 w1 =>
abx [.nil, .nil, .nil] w1 fun t2 w2 =>
aldN 4 t1 w2 fun t12 =>
acallW pr 31 [t12] w2 (apn R) fun t13 w3 =>
aext 0 t13 fun t14 =>
aext 1 t13 fun t15 =>
aar .neq t15 (.i 0) fun t17 =>
acnd t17 (abld [.nil, .nil, .nil] [] fun t18 =>
ast 3 t2 t18 w3 fun w4 =>
aldN 3 t2 w4 fun r0 =>
R (.ret (.tuple [r0, t15])) w4) (abx [.nil, .nil, .nil] w3 fun t6 w5 =>
amkM w5 fun t20 w6 =>
afld 0 t6 fun t21 =>
aupM pr 3 t20 (.i 7) t21 w6 fun w7 =>
afld 1 t6 fun t22 =>
aupM pr 3 t20 (.i 14) t22 w7 fun w8 =>
afld 2 t6 fun t23 =>
aupM pr 3 t20 (.i 2) t23 w8 fun w9 =>
aldN 4 t1 w9 fun t25 =>
acallW pr 32 [t25] w9 (apn R) fun t26 w10 =>
alenL t26 fun t27 =>
alp [.i 0] w10 fun v7 w11 k7 =>
aar .lss (aix v7 0) t27 fun t29 =>
acnd t29 (aidxS 5 t26 (aix v7 0) fun t30 =>
aldN 5 t30 w11 fun t31 =>
abx [.s ⟨#[]⟩, .i 0, .s ⟨#[]⟩, .i 0, .nil] w11 fun t9 w12 =>
ast 5 t9 t31 w12 fun w13 =>
afld 1 t9 fun t33 =>
afld 0 t33 fun t34 =>
ald1 t34 w13 fun t35 =>
alkM pr 3 false (.val (.pointer none)) t20 t35 w13 fun t36 =>
aeqP .neq t36 (.val (.pointer none)) fun t38 =>
acnd t38 (anilc t36 fun t41 =>
ald1 t41 w13 fun t42 =>
afld 0 t9 fun t43 =>
ald1 t43 w13 fun t44 =>
abldF 1 1 [.s ⟨#[]⟩] [(0, 1, t44)] fun t45 =>
aapp 9 1 16 t42 t45 w13 fun t46 w14 =>
anilc t36 fun t47 =>
ast 1 t47 t46 w14 fun w15 =>
aar .add (aix v7 0) (.i 1) fun t48 =>
k7 [t48] w15) (aar .add (aix v7 0) (.i 1) fun t48 =>
k7 [t48] w13)) (aldN 3 t6 w11 fun t49 =>
acallS pr 33 [t49] w11 (fun _ _ => False) fun t50 w16 =>
aar .gtr t50 (.i 6) fun t51 =>
acnd t51 (abld [.nil, .nil, .nil] [] fun t61 =>
ast 3 t2 t61 w16 fun w17 =>
aldN 3 t2 w17 fun r0 =>
R (.ret (.tuple [r0, .i 7])) w17) (aldN 3 t6 w16 fun t53 =>
acallS pr 33 [t53] w16 (fun _ _ => False) fun t54 w18 =>
afld 2 t6 fun t55 =>
ald1 t55 w18 fun t56 =>
alenL t56 fun t57 =>
aar .add t54 t57 fun t58 =>
aar .gtr t58 (.i 64) fun t59 =>
acnd t59 (abld [.nil, .nil, .nil] [] fun t61 =>
ast 3 t2 t61 w18 fun w19 =>
aldN 3 t2 w19 fun r0 =>
R (.ret (.tuple [r0, .i 7])) w19) (aldN 3 t6 w18 fun t62 =>
ast 3 t2 t62 w18 fun w20 =>
aldN 3 t2 w20 fun r0 =>
R (.ret (.tuple [r0, .i 0])) w20))))
theorem A10_eq : A10 = fun a0 L R => aex pr ⟨[(15, [28])], [(11, [(0, 0), (1, 0), (2, 0), (3, 0), (4, 0), (5, 0), (6, 0), (7, 2), (8, 0), (9, 2)]), (13, [(0, 0), (1, 0), (2, 0), (3, 0), (4, 0), (5, 0), (6, 0), (7, 0), (8, 0), (9, 0), (10, 0), (11, 0)])]⟩ (bodyOf fn10) (aenv0 [a0]) L (apost pr fn10.results.toList R) := by kernel_rfl
theorem s10 {a0 : D} {L : List Bx} {R : AE → List Bx → Prop} (h : A10 a0 L R) : ASpec pr 10 [a0] L R :=
  aspec_of (A := ⟨[(15, [28])], [(11, [(0, 0), (1, 0), (2, 0), (3, 0), (4, 0), (5, 0), (6, 0), (7, 2), (8, 0), (9, 2)]), (13, [(0, 0), (1, 0), (2, 0), (3, 0), (4, 0), (5, 0), (6, 0), (7, 0), (8, 0), (9, 0), (10, 0), (11, 0)])]⟩) (fn := fn10) 1 mixed Tryz.func10 (by kernel_rfl) (by decide) rfl (by kernel_rfl) (by rw [A10_eq] at h; exact h)
noncomputable abbrev fn30 : Func := Tryz.f30
/- ashlar/ashlarlaw13.atom -/
def A30 (L : List Bx) (R : AE → List Bx → Prop) : Prop :=
abx [.i 0, .s ⟨#[]⟩, .i 0, .nil] L fun t0 w1 =>
abld [.i 0, .s ⟨#[]⟩, .i 0, .nil] [(0, 1, .i 7), (1, 1, .s ⟨#[97]⟩)] fun t3 =>
abldS 24 4 1 [.i 0, .s ⟨#[]⟩, .i 0, .nil] [(0, 4, t3)] w1 fun t4 w2 =>
abld [.i 0, .s ⟨#[]⟩, .i 0, .nil] [(0, 1, .i 3), (3, 1, t4)] fun t5 =>
abldS 24 4 1 [.i 0, .s ⟨#[]⟩, .i 0, .nil] [(0, 4, t5)] w2 fun t6 w3 =>
abld [.i 0, .s ⟨#[]⟩, .i 0, .nil] [(0, 1, .i 6), (2, 1, .i 2), (3, 1, t6)] fun t7 =>
abx [.i 0, .s ⟨#[]⟩, .i 0, .nil] w3 fun t1 w4 =>
ast 4 t1 t7 w4 fun w5 =>
abld [.i 0, .s ⟨#[]⟩, .i 0, .nil] [(0, 1, .i 9)] fun t8 =>
abldS 24 4 1 [.i 0, .s ⟨#[]⟩, .i 0, .nil] [(0, 4, t8)] w5 fun t9 w6 =>
abld [.i 0, .s ⟨#[]⟩, .i 0, .nil] [(0, 1, .i 3), (3, 1, t9)] fun t10 =>
abld [.i 0, .s ⟨#[]⟩, .i 0, .nil] [(0, 1, .i 2), (1, 1, .s ⟨#[120]⟩)] fun t11 =>
abldS 24 4 2 [.i 0, .s ⟨#[]⟩, .i 0, .nil, .i 0, .s ⟨#[]⟩, .i 0, .nil] [(0, 4, t10), (4, 4, t11)] w6 fun t12 w7 =>
abld [.i 0, .s ⟨#[]⟩, .i 0, .nil] [(0, 1, .i 4), (3, 1, t12)] fun t13 =>
abx [.i 0, .s ⟨#[]⟩, .i 0, .nil] w7 fun t2 w8 =>
ast 4 t2 t13 w8 fun w9 =>
aldN 4 t2 w9 fun t14 =>
aldN 4 t1 w9 fun t15 =>
abldS 24 4 2 [.i 0, .s ⟨#[]⟩, .i 0, .nil, .i 0, .s ⟨#[]⟩, .i 0, .nil] [(0, 4, t14), (4, 4, t15)] w9 fun t16 w10 =>
abld [.i 0, .s ⟨#[]⟩, .i 0, .nil] [(0, 1, .i 22), (3, 1, t16)] fun t17 =>
ast 4 t0 t17 w10 fun w11 =>
aldN 4 t0 w11 fun r0 =>
R (.ret r0) w11
theorem A30_eq : A30 = fun  L R => aex pr ⟨[], []⟩ (bodyOf fn30) (aenv0 []) L (apost pr fn30.results.toList R) := by kernel_rfl
theorem s30 {L : List Bx} {R : AE → List Bx → Prop} (h : A30  L R) : ASpec pr 30 [] L R :=
  aspec_of (A := ⟨[], []⟩) (fn := fn30) 0 mixed Tryz.func30 (by kernel_rfl) (by decide) rfl (by kernel_rfl) (by rw [A30_eq] at h; exact h)
noncomputable abbrev fn60 : Func := Tryz.f60
/- (ashlar/venn.Plan).Base$1 -/
def A60 (a0 a1 : D) (L : List Bx) (R : AE → List Bx → Prop) : Prop :=
ald1 a1 L fun t5 =>
aar .eql a0 t5 fun t6 =>
R (.ret t6) L
theorem A60_eq : A60 = fun a0 a1 L R => aex pr ⟨[], []⟩ (bodyOf fn60) (aenv0 [a0, a1]) L (apost pr fn60.results.toList R) := by kernel_rfl
theorem s60 {a0 a1 : D} {L : List Bx} {R : AE → List Bx → Prop} (h : A60 a0 a1 L R) : ASpec pr 60 [a0, a1] L R :=
  aspec_of (A := ⟨[], []⟩) (fn := fn60) 2 mixed Tryz.func60 (by kernel_rfl) (by decide) rfl (by kernel_rfl) (by rw [A60_eq] at h; exact h)
noncomputable abbrev fn61 : Func := Tryz.f61
/- (ashlar/venn.Plan).Base$2 -/
def A61 (a0 : D) (L : List Bx) (R : AE → List Bx → Prop) : Prop :=
R (.ret (.b true)) L
theorem A61_eq : A61 = fun a0 L R => aex pr ⟨[], []⟩ (bodyOf fn61) (aenv0 [a0]) L (apost pr fn61.results.toList R) := by kernel_rfl
theorem s61 {a0 : D} {L : List Bx} {R : AE → List Bx → Prop} (h : A61 a0 L R) : ASpec pr 61 [a0] L R :=
  aspec_of (A := ⟨[], []⟩) (fn := fn61) 1 mixed Tryz.func61 (by kernel_rfl) (by decide) rfl (by kernel_rfl) (by rw [A61_eq] at h; exact h)
noncomputable abbrev fn62 : Func := Tryz.f62
/- (ashlar/venn.Plan).Base$3 -/
def A62 (a0 a1 a2 : D) (L : List Bx) (R : AE → List Bx → Prop) : Prop :=
afld 0 a1 fun t6 =>
ald1 t6 L fun t7 =>
alenL t7 fun t8 =>
ald1 a2 L fun t9 =>
aar .add t8 t9 fun t10 =>
acallW pr 52 [a0, t10] L (apn R) fun t11 w1 =>
R (.ret t11) w1
theorem A62_eq : A62 = fun a0 a1 a2 L R => aex pr ⟨[], []⟩ (bodyOf fn62) (aenv0 [a0, a1, a2]) L (apost pr fn62.results.toList R) := by kernel_rfl
theorem s62 {a0 a1 a2 : D} {L : List Bx} {R : AE → List Bx → Prop} (h : A62 a0 a1 a2 L R) : ASpec pr 62 [a0, a1, a2] L R :=
  aspec_of (A := ⟨[], []⟩) (fn := fn62) 3 mixed Tryz.func62 (by kernel_rfl) (by decide) rfl (by kernel_rfl) (by rw [A62_eq] at h; exact h)
noncomputable abbrev fn24 : Func := Tryz.f24
/- (ashlar/venn.Plan).Base -/
def A24 (a0 : D) (L : List Bx) (R : AE → List Bx → Prop) : Prop :=
abxv a0 L fun t1 w1 =>
aldN 3 t1 w1 fun t7 =>
acallW pr 19 [t7] w1 (apn R) fun t8 w2 =>
alp [.nil, .i 0] w2 fun v3 w3 k3 =>
aar .lss (aix v3 1) t8 fun t10 =>
acnd t10 (abx [.i 0] w3 fun t4 w4 =>
ast 1 t4 (aix v3 1) w4 fun w5 =>
aldN 3 t1 w5 fun t13 =>
acallW pr 40 [t13, .i (-1), .i 0, .fn 60 [] [t4]] w5 (apn R) fun t15 w6 =>
abldS 41 2 1 [.nil, .i 0] [(0, 2, t15)] w6 fun t16 w7 =>
aapp 41 2 32 (aix v3 0) t16 w7 fun t17 w8 =>
aar .add (aix v3 1) (.i 1) fun t18 =>
k3 [t17, t18] w8) (aldN 3 t1 w3 fun t20 =>
acallW pr 40 [t20, .i (-1), .i 1, .fn 61 [] []] w3 (apn R) fun t21 w9 =>
abldS 41 2 1 [.nil, .i 0] [(0, 2, t21)] w9 fun t22 w10 =>
aapp 41 2 32 (aix v3 0) t22 w10 fun t23 w11 =>
afld 1 t1 fun t24 =>
ald1 t24 w11 fun t25 =>
alenL t25 fun t26 =>
alp [t23, .i 0] w11 fun v9 w12 k9 =>
aar .lss (aix v9 1) t26 fun t28 =>
acnd t28 (abx [.i 0] w12 fun t5 w13 =>
ast 1 t5 (aix v9 1) w13 fun w14 =>
aldN 3 t1 w14 fun t32 =>
acallS pr 40 [t32, .i 1, .i (-1), .fn 62 [] [t1, t5]] w14 (fun _ _ => False) fun t34 w15 =>
aldN 3 t1 w15 fun t35 =>
acallS pr 40 [t35, .i (-1), .i 1, .fn 62 [] [t1, t5]] w15 (fun _ _ => False) fun t37 w16 =>
abldF 2 2 [.nil, .i 0, .nil, .i 0] [(0, 2, t34), (2, 2, t37)] fun t38 =>
aapp 41 2 32 (aix v9 0) t38 w16 fun t39 w17 =>
aar .add (aix v9 1) (.i 1) fun t40 =>
k9 [t39, t40] w17) (R (.ret (aix v9 0)) w12))
theorem A24_eq : A24 = fun a0 L R => aex pr ⟨[(7, [3, 9]), (19, [3, 27])], [(12, [(0, 0), (1, 0), (2, 0), (3, 0), (4, 0), (5, 0), (6, 0), (7, 0), (8, 2), (9, 2)])]⟩ (bodyOf fn24) (aenv0 [a0]) L (apost pr fn24.results.toList R) := by kernel_rfl
theorem s24 {a0 : D} {L : List Bx} {R : AE → List Bx → Prop} (h : A24 a0 L R) : ASpec pr 24 [a0] L R :=
  aspec_of (A := ⟨[(7, [3, 9]), (19, [3, 27])], [(12, [(0, 0), (1, 0), (2, 0), (3, 0), (4, 0), (5, 0), (6, 0), (7, 0), (8, 2), (9, 2)])]⟩) (fn := fn24) 1 mixed Tryz.func24 (by kernel_rfl) (by decide) rfl (by kernel_rfl) (by rw [A24_eq] at h; exact h)
noncomputable abbrev fn15 : Func := Tryz.f15
/- (ashlar/venn.Plan).Count -/
def A15 (a0 a1 : D) (L : List Bx) (R : AE → List Bx → Prop) : Prop :=
abxv a0 L fun t2 w1 =>
abxv a1 w1 fun t3 w2 =>
aldN 2 t3 w2 fun t24 =>
acallW pr 45 [t24] w2 (apn R) fun t25 w3 =>
anotb t25 fun t26 =>
acnd t26 (R (.ret (.tuple [.nil, .i 1])) w3) (afld 0 t3 fun t27 =>
ald1 t27 w3 fun t28 =>
amkS 3 1 8 [.i 0] t28 t28 w3 fun t29 w4 =>
afld 0 t2 fun t30 =>
ald1 t30 w4 fun t31 =>
alenL t31 fun t32 =>
alp [.i 0] w4 fun v5 w5 k5 =>
aar .lss (aix v5 0) t32 fun t34 =>
acnd t34 (aidxS 1 t31 (aix v5 0) fun t36 =>
ald1 t36 w5 fun t37 =>
aldN 2 t3 w5 fun t39 =>
acallW pr 46 [t39, t37, .i 2] w5 (apn R) fun t41 w6 =>
aext 0 t41 fun t42 =>
aext 1 t41 fun t43 =>
abx [.i 0, .i 0, .b false, .nil] w6 fun t9 w7 =>
ast 4 t9 t42 w7 fun w8 =>
anotb t43 fun t45 =>
acnd t45 (R (.ret (.tuple [.nil, .i 4])) w8) (afld 3 t9 fun t46 =>
ald1 t46 w8 fun t47 =>
alenL t47 fun t48 =>
alp [.i 0] w8 fun v11 w9 k11 =>
aar .lss (aix v11 0) t48 fun t50 =>
acnd t50 (aidxS 1 t47 (aix v11 0) fun t52 =>
ald1 t52 w9 fun t53 =>
acnd t53 (aidxS 1 t29 (aix v11 0) fun t57 =>
ald1 t57 w9 fun t58 =>
aar .shl (.i 1) (aix v5 0) fun t60 =>
aar .or t58 t60 fun t61 =>
aidxS 1 t29 (aix v11 0) fun t62 =>
ast 1 t62 t61 w9 fun w10 =>
aar .add (aix v11 0) (.i 1) fun t63 =>
k11 [t63] w10) (aar .add (aix v11 0) (.i 1) fun t63 =>
k11 [t63] w9)) (aar .add (aix v5 0) (.i 1) fun t64 =>
k5 [t64] w9))) (afld 1 t2 fun t65 =>
ald1 t65 w5 fun t66 =>
alenL t66 fun t67 =>
alp [.i 0] w5 fun v18 w11 k18 =>
aar .lss (aix v18 0) t67 fun t69 =>
acnd t69 (aidxS 1 t66 (aix v18 0) fun t71 =>
ald1 t71 w11 fun t72 =>
aldN 2 t3 w11 fun t74 =>
acallW pr 46 [t74, t72, .i 3] w11 (apn R) fun t76 w12 =>
aext 0 t76 fun t77 =>
aext 1 t76 fun t78 =>
abx [.i 0, .i 0, .b false, .nil] w12 fun t15 w13 =>
ast 4 t15 t77 w13 fun w14 =>
anotb t78 fun t80 =>
acnd t80 (R (.ret (.tuple [.nil, .i 4])) w14) (afld 1 t15 fun t82 =>
ald1 t82 w14 fun t83 =>
aidxS 1 t29 t83 fun t84 =>
ald1 t84 w14 fun t85 =>
afld 0 t2 fun t86 =>
ald1 t86 w14 fun t87 =>
alenL t87 fun t88 =>
aar .add t88 (aix v18 0) fun t90 =>
aar .shl (.i 1) t90 fun t91 =>
aar .or t85 t91 fun t92 =>
aidxS 1 t29 t83 fun t93 =>
ast 1 t93 t92 w14 fun w15 =>
aar .add (aix v18 0) (.i 1) fun t94 =>
k18 [t94] w15)) (aldN 3 t2 w11 fun t95 =>
acallW pr 21 [t95] w11 (apn R) fun t96 w16 =>
amkS 2 1 8 [.i 0] t96 t96 w16 fun t97 w17 =>
alenL t29 fun t99 =>
alp [.i 0] w17 fun v27 w18 k27 =>
aar .lss (aix v27 0) t99 fun t101 =>
acnd t101 (aidxS 1 t29 (aix v27 0) fun t102 =>
ald1 t102 w18 fun t103 =>
aidxS 1 t97 t103 fun t106 =>
ald1 t106 w18 fun t107 =>
aar .add t107 (.i 1) fun t108 =>
aidxS 1 t97 t103 fun t109 =>
ast 1 t109 t108 w18 fun w19 =>
aar .add (aix v27 0) (.i 1) fun t110 =>
k27 [t110] w19) (afld 2 t2 fun t111 =>
ald1 t111 w18 fun t112 =>
alenL t112 fun t113 =>
alp [.i 0] w18 fun v32 w20 k32 =>
aar .lss (aix v32 0) t113 fun t115 =>
acnd t115 (aidxS 1 t112 (aix v32 0) fun t117 =>
ald1 t117 w20 fun t118 =>
aldN 2 t3 w20 fun t120 =>
acallW pr 46 [t120, t118, .i 1] w20 (apn R) fun t122 w21 =>
aext 0 t122 fun t123 =>
aext 1 t122 fun t124 =>
abx [.i 0, .i 0, .b false, .nil] w21 fun t22 w22 =>
ast 4 t22 t123 w22 fun w23 =>
anotb t124 fun t126 =>
acnd t126 (R (.ret (.tuple [.nil, .i 4])) w23) (aldN 3 t2 w23 fun t128 =>
acallS pr 19 [t128] w23 (fun _ _ => False) fun t129 w24 =>
aar .add t129 (aix v32 0) fun t131 =>
afld 1 t22 fun t132 =>
ald1 t132 w24 fun t133 =>
aidxS 1 t97 t131 fun t134 =>
ast 1 t134 t133 w24 fun w25 =>
aar .add (aix v32 0) (.i 1) fun t135 =>
k32 [t135] w25)) (R (.ret (.tuple [t97, .i 0])) w20)))))
theorem A15_eq : A15 = fun a0 a1 L R => aex pr ⟨[(11, [33]), (23, [49]), (37, [68]), (55, [100]), (65, [114])], [(14, [(0, 0), (1, 0), (2, 0), (3, 0), (4, 0), (5, 0), (6, 0), (7, 0), (8, 2)]), (23, [(0, 0), (1, 0), (2, 0), (3, 0), (4, 0), (5, 0), (6, 0), (7, 0), (8, 0), (9, 0), (10, 0), (11, 0), (12, 0), (13, 2)]), (37, [(0, 0), (1, 0), (2, 0), (3, 0), (4, 0), (5, 0), (6, 0), (7, 0), (8, 2)])]⟩ (bodyOf fn15) (aenv0 [a0, a1]) L (apost pr fn15.results.toList R) := by kernel_rfl
theorem s15 {a0 a1 : D} {L : List Bx} {R : AE → List Bx → Prop} (h : A15 a0 a1 L R) : ASpec pr 15 [a0, a1] L R :=
  aspec_of (A := ⟨[(11, [33]), (23, [49]), (37, [68]), (55, [100]), (65, [114])], [(14, [(0, 0), (1, 0), (2, 0), (3, 0), (4, 0), (5, 0), (6, 0), (7, 0), (8, 2)]), (23, [(0, 0), (1, 0), (2, 0), (3, 0), (4, 0), (5, 0), (6, 0), (7, 0), (8, 0), (9, 0), (10, 0), (11, 0), (12, 0), (13, 2)]), (37, [(0, 0), (1, 0), (2, 0), (3, 0), (4, 0), (5, 0), (6, 0), (7, 0), (8, 2)])]⟩) (fn := fn15) 2 mixed Tryz.func15 (by kernel_rfl) (by decide) rfl (by kernel_rfl) (by rw [A15_eq] at h; exact h)
noncomputable abbrev fn50 : Func := Tryz.f50
/- (ashlar/venn.Plan).sum -/
def A50 (a0 a1 a2 : D) (L : List Bx) (R : AE → List Bx → Prop) : Prop :=
abxv a0 L fun t3 w1 =>
aldN 3 t3 w1 fun t9 =>
acallW pr 19 [t9] w1 (apn R) fun t10 w2 =>
alp [.i 0, .i 0] w2 fun v3 w3 k3 =>
aar .lss (aix v3 1) t10 fun t12 =>
acnd t12 (acallF pr false a2 [aix v3 1] w3 (apn R) fun t16 w4 =>
acnd t16 (aidxS 1 a1 (aix v3 1) fun t20 =>
ald1 t20 w4 fun t21 =>
amin2 t21 (.i 65) fun t22 =>
aar .add (aix v3 0) t22 fun t23 =>
amin2 t23 (.i 65) fun t24 =>
aar .add (aix v3 1) (.i 1) fun t25 =>
k3 [t24, t25] w4) (aar .add (aix v3 1) (.i 1) fun t25 =>
k3 [aix v3 0, t25] w4)) (R (.ret (aix v3 0)) w3)
theorem A50_eq : A50 = fun a0 a1 a2 L R => aex pr ⟨[(7, [7, 11])], []⟩ (bodyOf fn50) (aenv0 [a0, a1, a2]) L (apost pr fn50.results.toList R) := by kernel_rfl
theorem s50 {a0 a1 a2 : D} {L : List Bx} {R : AE → List Bx → Prop} (h : A50 a0 a1 a2 L R) : ASpec pr 50 [a0, a1, a2] L R :=
  aspec_of (A := ⟨[(7, [7, 11])], []⟩) (fn := fn50) 3 mixed Tryz.func50 (by kernel_rfl) (by decide) rfl (by kernel_rfl) (by rw [A50_eq] at h; exact h)
noncomputable abbrev fn100 : Func := Tryz.f100
/- math/bits.Mul -/
def A100 (a0 a1 : D) (L : List Bx) (R : AE → List Bx → Prop) : Prop :=
acallW pr 143 [a0, a1] L (apn R) fun t25 w1 =>
aext 0 t25 fun t26 =>
aext 1 t25 fun t27 =>
R (.ret (.tuple [t26, t27])) w1
theorem A100_eq : A100 = fun a0 a1 L R => aex pr ⟨[], []⟩ (bodyOf fn100) (aenv0 [a0, a1]) L (apost pr fn100.results.toList R) := by kernel_rfl
theorem s100 {a0 a1 : D} {L : List Bx} {R : AE → List Bx → Prop} (h : A100 a0 a1 L R) : ASpec pr 100 [a0, a1] L R :=
  aspec_of (A := ⟨[], []⟩) (fn := fn100) 2 mixed Tryz.func100 (by kernel_rfl) (by decide) rfl (by kernel_rfl) (by rw [A100_eq] at h; exact h)
noncomputable abbrev fn54 : Func := Tryz.f54
/- slices.Repeat[[]int,int] -/
def A54 (a0 a1 : D) (L : List Bx) (R : AE → List Bx → Prop) : Prop :=
ajn (fun v3 w1 =>
alenL a0 fun t14 =>
acvI .u64 t14 fun t15 =>
acvI .u64 a1 fun t17 =>
acallW pr 100 [t15, t17] w1 (apn R) fun t18 w2 =>
aext 0 t18 fun t19 =>
aext 1 t18 fun t20 =>
ajn (fun v6 w3 =>
acvI .i64 t20 fun t29 =>
amkS 3 1 8 [.i 0] t29 t29 w3 fun t30 w4 =>
acpy 1 t30 a0 w4 fun t33 w5 =>
alp [t33] w5 fun v8 w6 k8 =>
alenL t30 fun t36 =>
aar .lss (aix v8 0) t36 fun t37 =>
acnd t37 (aslcL 1 t30 (some (aix v8 0)) none fun t41 =>
aslcL 1 t30 none (some (aix v8 0)) fun t44 =>
acpy 1 t41 t44 w6 fun t45 w7 =>
aar .add (aix v8 0) t45 fun t46 =>
k8 [t46] w7) (R (.ret t30) w6)) fun j6 =>
ajn (fun v5 w8 =>
acnd (aix v5 0) (apn R (.ifc 9 (.s ⟨#[116, 104, 101, 32, 114, 101, 115, 117, 108, 116, 32, 111, 102, 32, 40, 108, 101, 110, 40, 120, 41, 32, 42, 32, 99, 111, 117, 110, 116, 41, 32, 111, 118, 101, 114, 102, 108, 111, 119, 115]⟩)) w8) (j6 [] w8)) fun j5 =>
aar .gtr t19 (.val (.int .u64 0)) fun t22 =>
acnd t22 (j5 [.b true] w2) (aar .gtr t20 (.val (.int .u64 9223372036854775807)) fun t25 =>
j5 [t25] w2)) fun j3 =>
aar .lss a1 (.i 0) fun t10 =>
acnd t10 (apn R (.ifc 9 (.s ⟨#[99, 97, 110, 110, 111, 116, 32, 98, 101, 32, 110, 101, 103, 97, 116, 105, 118, 101]⟩)) L) (j3 [] L)
theorem A54_eq : A54 = fun a0 a1 L R => aex pr ⟨[(6, []), (10, [26]), (12, []), (17, [8])], [(9, [(0, 0), (1, 0), (2, 0), (3, 0), (4, 0), (5, 0), (6, 0), (7, 2), (8, 0), (9, 2)])]⟩ (bodyOf fn54) (aenv0 [a0, a1]) L (apost pr fn54.results.toList R) := by kernel_rfl
theorem s54 {a0 a1 : D} {L : List Bx} {R : AE → List Bx → Prop} (h : A54 a0 a1 L R) : ASpec pr 54 [a0, a1] L R :=
  aspec_of (A := ⟨[(6, []), (10, [26]), (12, []), (17, [8])], [(9, [(0, 0), (1, 0), (2, 0), (3, 0), (4, 0), (5, 0), (6, 0), (7, 2), (8, 0), (9, 2)])]⟩) (fn := fn54) 2 mixed Tryz.func54 (by kernel_rfl) (by decide) rfl (by kernel_rfl) (by rw [A54_eq] at h; exact h)
noncomputable abbrev fn49 : Func := Tryz.f49
/- slices.Min[[]int64,int64] -/
def A49 (a0 : D) (L : List Bx) (R : AE → List Bx → Prop) : Prop :=
ajn (fun v3 w1 =>
aidxS 1 a0 (.i 0) fun t10 =>
ald1 t10 w1 fun t11 =>
alp [t11, .i 1] w1 fun v5 w2 k5 =>
alenL a0 fun t14 =>
aar .lss (aix v5 1) t14 fun t15 =>
acnd t15 (aidxS 1 a0 (aix v5 1) fun t21 =>
ald1 t21 w2 fun t22 =>
amin2 (aix v5 0) t22 fun t23 =>
aar .add (aix v5 1) (.i 1) fun t17 =>
k5 [t23, t17] w2) (R (.ret (aix v5 0)) w2)) fun j3 =>
alenL a0 fun t6 =>
aar .lss t6 (.i 1) fun t7 =>
acnd t7 (apn R (.ifc 9 (.s ⟨#[115, 108, 105, 99, 101, 115, 46, 77, 105, 110, 58, 32, 101, 109, 112, 116, 121, 32, 108, 105, 115, 116]⟩)) L) (j3 [] L)
theorem A49_eq : A49 = fun a0 L R => aex pr ⟨[(6, []), (11, [3, 4])], []⟩ (bodyOf fn49) (aenv0 [a0]) L (apost pr fn49.results.toList R) := by kernel_rfl
theorem s49 {a0 : D} {L : List Bx} {R : AE → List Bx → Prop} (h : A49 a0 L R) : ASpec pr 49 [a0] L R :=
  aspec_of (A := ⟨[(6, []), (11, [3, 4])], []⟩) (fn := fn49) 1 mixed Tryz.func49 (by kernel_rfl) (by decide) rfl (by kernel_rfl) (by rw [A49_eq] at h; exact h)
noncomputable abbrev fn56 : Func := Tryz.f56
/- slices.IndexFunc[[]int,int] -/
def A56 (a0 a1 : D) (L : List Bx) (R : AE → List Bx → Prop) : Prop :=
alenL a0 fun t7 =>
alp [.i 0] L fun v2 w1 k2 =>
aar .lss (aix v2 0) t7 fun t9 =>
acnd t9 (aidxS 1 a0 (aix v2 0) fun t14 =>
ald1 t14 w1 fun t15 =>
acallF pr false a1 [t15] w1 (apn R) fun t16 w2 =>
acnd t16 (R (.ret (aix v2 0)) w2) (aar .add (aix v2 0) (.i 1) fun t18 =>
k2 [t18] w2)) (R (.ret (.i (-1))) w1)
theorem A56_eq : A56 = fun a0 a1 L R => aex pr ⟨[(5, [8])], []⟩ (bodyOf fn56) (aenv0 [a0, a1]) L (apost pr fn56.results.toList R) := by kernel_rfl
theorem s56 {a0 a1 : D} {L : List Bx} {R : AE → List Bx → Prop} (h : A56 a0 a1 L R) : ASpec pr 56 [a0, a1] L R :=
  aspec_of (A := ⟨[(5, [8])], []⟩) (fn := fn56) 2 mixed Tryz.func56 (by kernel_rfl) (by decide) rfl (by kernel_rfl) (by rw [A56_eq] at h; exact h)
noncomputable abbrev fn51 : Func := Tryz.f51
/- (ashlar/venn.Plan).World$1 -/
def A51 (a0 a1 a2 : D) (L : List Bx) (R : AE → List Bx → Prop) : Prop :=
afld 0 a1 fun t6 =>
ald1 t6 L fun t7 =>
alenL t7 fun t8 =>
ald1 a2 L fun t9 =>
aar .add t8 t9 fun t10 =>
acallW pr 52 [a0, t10] L (apn R) fun t11 w1 =>
R (.ret t11) w1
theorem A51_eq : A51 = fun a0 a1 a2 L R => aex pr ⟨[], []⟩ (bodyOf fn51) (aenv0 [a0, a1, a2]) L (apost pr fn51.results.toList R) := by kernel_rfl
theorem s51 {a0 a1 a2 : D} {L : List Bx} {R : AE → List Bx → Prop} (h : A51 a0 a1 a2 L R) : ASpec pr 51 [a0, a1, a2] L R :=
  aspec_of (A := ⟨[], []⟩) (fn := fn51) 3 mixed Tryz.func51 (by kernel_rfl) (by decide) rfl (by kernel_rfl) (by rw [A51_eq] at h; exact h)
noncomputable abbrev fn53 : Func := Tryz.f53
/- (ashlar/venn.Plan).World$2 -/
def A53 (a0 : D) (L : List Bx) (R : AE → List Bx → Prop) : Prop :=
R (.ret (.b true)) L
theorem A53_eq : A53 = fun a0 L R => aex pr ⟨[], []⟩ (bodyOf fn53) (aenv0 [a0]) L (apost pr fn53.results.toList R) := by kernel_rfl
theorem s53 {a0 : D} {L : List Bx} {R : AE → List Bx → Prop} (h : A53 a0 L R) : ASpec pr 53 [a0] L R :=
  aspec_of (A := ⟨[], []⟩) (fn := fn53) 1 mixed Tryz.func53 (by kernel_rfl) (by decide) rfl (by kernel_rfl) (by rw [A53_eq] at h; exact h)
noncomputable abbrev fn55 : Func := Tryz.f55
/- (ashlar/venn.Plan).World$3 -/
def A55 (a0 a1 a2 : D) (L : List Bx) (R : AE → List Bx → Prop) : Prop :=
abxv a1 L fun t4 w1 =>
afld 1 a2 fun t5 =>
ald1 t5 w1 fun t6 =>
aldN 4 t4 w1 fun t8 =>
abld [.s ⟨#[]⟩, .i 0, .i 0, .b false, .nil] [(0, 1, a0), (1, 4, t8)] fun t9 =>
abldS 64 5 1 [.s ⟨#[]⟩, .i 0, .i 0, .b false, .nil] [(0, 5, t9)] w1 fun t10 w2 =>
aapp 64 5 64 t6 t10 w2 fun t11 w3 =>
afld 1 a2 fun t12 =>
ast 1 t12 t11 w3 fun w4 =>
R (.ret (.tuple [])) w4
theorem A55_eq : A55 = fun a0 a1 a2 L R => aex pr ⟨[], []⟩ (bodyOf fn55) (aenv0 [a0, a1, a2]) L (apost pr fn55.results.toList R) := by kernel_rfl
theorem s55 {a0 a1 a2 : D} {L : List Bx} {R : AE → List Bx → Prop} (h : A55 a0 a1 a2 L R) : ASpec pr 55 [a0, a1, a2] L R :=
  aspec_of (A := ⟨[], []⟩) (fn := fn55) 3 mixed Tryz.func55 (by kernel_rfl) (by decide) rfl (by kernel_rfl) (by rw [A55_eq] at h; exact h)
noncomputable abbrev fn57 : Func := Tryz.f57
/- (ashlar/venn.Plan).World$4 -/
def A57 (a0 a1 a2 : D) (L : List Bx) (R : AE → List Bx → Prop) : Prop :=
afld 0 a1 fun t6 =>
ald1 t6 L fun t7 =>
alenL t7 fun t8 =>
ald1 a2 L fun t9 =>
aar .add t8 t9 fun t10 =>
acallW pr 52 [a0, t10] L (apn R) fun t11 w1 =>
R (.ret t11) w1
theorem A57_eq : A57 = fun a0 a1 a2 L R => aex pr ⟨[], []⟩ (bodyOf fn57) (aenv0 [a0, a1, a2]) L (apost pr fn57.results.toList R) := by kernel_rfl
theorem s57 {a0 a1 a2 : D} {L : List Bx} {R : AE → List Bx → Prop} (h : A57 a0 a1 a2 L R) : ASpec pr 57 [a0, a1, a2] L R :=
  aspec_of (A := ⟨[], []⟩) (fn := fn57) 3 mixed Tryz.func57 (by kernel_rfl) (by decide) rfl (by kernel_rfl) (by rw [A57_eq] at h; exact h)
noncomputable abbrev fn17 : Func := Tryz.f17
/- (ashlar/venn.Plan).World -/
def A17 (a0 a1 : D) (L : List Bx) (R : AE → List Bx → Prop) : Prop :=
abxv a0 L fun t2 w1 =>
abx [.i 0, .nil] w1 fun t4 w2 =>
ajn (fun v3 w3 =>
afld 1 t2 fun t35 =>
ald1 t35 w3 fun t36 =>
alenL t36 fun t37 =>
alp [.i 0] w3 fun v4 w4 k4 =>
aar .lss (aix v4 0) t37 fun t39 =>
acnd t39 (abx [.i 0] w4 fun t6 w5 =>
ast 1 t6 (aix v4 0) w5 fun w6 =>
aldN 3 t2 w6 fun t41 =>
acallW pr 50 [t41, a1, .fn 51 [] [t2, t6]] w6 (apn R) fun t44 w7 =>
aar .neq t44 (.i 1) fun t45 =>
acnd t45 (abld [.i 0, .nil] [] fun t46 =>
ast 2 t4 t46 w7 fun w8 =>
aldN 2 t4 w8 fun r0 =>
R (.ret (.tuple [r0, .i 1])) w8) (aar .add (aix v4 0) (.i 1) fun t47 =>
k4 [t47] w7)) (aldN 3 t2 w4 fun t48 =>
acallW pr 50 [t48, a1, .fn 53 [] []] w4 (apn R) fun t50 w9 =>
abld [.i 0, .nil] [(0, 1, t50)] fun t51 =>
abx [.i 0, .nil] w9 fun t7 w10 =>
ast 2 t7 t51 w10 fun w11 =>
afld 0 t7 fun t53 =>
ald1 t53 w11 fun t54 =>
aar .eql t54 (.i 0) fun t55 =>
acnd t55 (abld [.i 0, .nil] [] fun t56 =>
ast 2 t4 t56 w11 fun w12 =>
aldN 2 t4 w12 fun r0 =>
R (.ret (.tuple [r0, .i 1])) w12) (afld 0 t7 fun t58 =>
ald1 t58 w11 fun t59 =>
aar .eql t59 (.i 65) fun t60 =>
acnd t60 (abld [.i 0, .nil] [] fun t61 =>
ast 2 t4 t61 w11 fun w13 =>
aldN 2 t4 w13 fun r0 =>
R (.ret (.tuple [r0, .i 7])) w13) (aldN 3 t2 w11 fun t62 =>
acallW pr 19 [t62] w11 (apn R) fun t63 w14 =>
alp [.nil, .i 0] w14 fun v16 w15 k16 =>
aar .lss (aix v16 1) t63 fun t65 =>
acnd t65 (abldS 3 1 1 [.i 0] [(0, 1, aix v16 1)] w15 fun t69 w16 =>
aidxS 1 a1 (aix v16 1) fun t72 =>
ald1 t72 w16 fun t73 =>
acallW pr 54 [t69, t73] w16 (apn R) fun t74 w17 =>
aapp 3 1 8 (aix v16 0) t74 w17 fun t75 w18 =>
aar .add (aix v16 1) (.i 1) fun t76 =>
k16 [t75, t76] w18) (afld 0 t2 fun t78 =>
ald1 t78 w15 fun t79 =>
alenL t79 fun t80 =>
alp [.i 0] w15 fun v22 w19 k22 =>
aar .lss (aix v22 0) t80 fun t82 =>
acnd t82 (aidxS 1 t79 (aix v22 0) fun t84 =>
ald1 t84 w19 fun t85 =>
abld [.i 0, .i 0, .b false, .nil] [(0, 1, .i 2)] fun t86 =>
abx [.i 0, .i 0, .b false, .nil] w19 fun t13 w20 =>
ast 4 t13 t86 w20 fun w21 =>
alenL (aix v16 0) fun t88 =>
alp [.i 0] w21 fun v26 w22 k26 =>
aar .lss (aix v26 0) t88 fun t90 =>
acnd t90 (aidxS 1 (aix v16 0) (aix v26 0) fun t91 =>
ald1 t91 w22 fun t92 =>
afld 3 t13 fun t93 =>
ald1 t93 w22 fun t94 =>
acallS pr 52 [t92, aix v22 0] w22 (fun _ _ => False) fun t97 w23 =>
abldF 1 1 [.b false] [(0, 1, t97)] fun t98 =>
aapp 4 1 1 t94 t98 w23 fun t99 w24 =>
afld 3 t13 fun t100 =>
ast 1 t100 t99 w24 fun w25 =>
aar .add (aix v26 0) (.i 1) fun t101 =>
k26 [t101] w25) (aldN 4 t13 w22 fun t104 =>
acallW pr 55 [t85, t104, t7] w22 (apn R) fun t105 w26 =>
aar .add (aix v22 0) (.i 1) fun t106 =>
k22 [t106] w26)) (afld 1 t2 fun t107 =>
ald1 t107 w19 fun t108 =>
alenL t108 fun t109 =>
alp [.i 0] w19 fun v33 w27 k33 =>
aar .lss (aix v33 0) t109 fun t111 =>
acnd t111 (aidxS 1 t108 (aix v33 0) fun t113 =>
ald1 t113 w27 fun t114 =>
abx [.i 0] w27 fun t16 w28 =>
ast 1 t16 (aix v33 0) w28 fun w29 =>
acallW pr 56 [aix v16 0, .fn 57 [] [t2, t16]] w29 (apn R) fun t117 w30 =>
abld [.i 0, .i 0, .b false, .nil] [(0, 1, .i 3), (1, 1, t117)] fun t121 =>
acallW pr 55 [t114, t121, t7] w30 (apn R) fun t122 w31 =>
aar .add (aix v33 0) (.i 1) fun t123 =>
k33 [t123] w31) (afld 2 t2 fun t124 =>
ald1 t124 w27 fun t125 =>
alenL t125 fun t126 =>
alp [.i 0] w27 fun v39 w32 k39 =>
aar .lss (aix v39 0) t126 fun t128 =>
acnd t128 (aidxS 1 t125 (aix v39 0) fun t130 =>
ald1 t130 w32 fun t131 =>
aldN 3 t2 w32 fun t135 =>
acallW pr 19 [t135] w32 (apn R) fun t136 w33 =>
aar .add t136 (aix v39 0) fun t138 =>
aidxS 1 a1 t138 fun t139 =>
ald1 t139 w33 fun t140 =>
abld [.i 0, .i 0, .b false, .nil] [(0, 1, .i 1), (1, 1, t140)] fun t141 =>
acallW pr 55 [t131, t141, t7] w33 (apn R) fun t142 w34 =>
aar .add (aix v39 0) (.i 1) fun t143 =>
k39 [t143] w34) (aldN 2 t7 w32 fun t144 =>
ast 2 t4 t144 w32 fun w35 =>
aldN 2 t4 w35 fun r0 =>
R (.ret (.tuple [r0, .i 0])) w35)))))))) fun j3 =>
alenL a1 fun t22 =>
aldN 3 t2 w2 fun t23 =>
acallW pr 21 [t23] w2 (apn R) fun t24 w36 =>
aar .neq t22 t24 fun t25 =>
acnd t25 (abld [.i 0, .nil] [] fun t34 =>
ast 2 t4 t34 w36 fun w37 =>
aldN 2 t4 w37 fun r0 =>
R (.ret (.tuple [r0, .i 1])) w37) (aldN 3 t2 w36 fun t28 =>
acallW pr 19 [t28] w36 (apn R) fun t29 w38 =>
aslcL 1 a1 none (some t29) fun t30 =>
acallW pr 49 [t30] w38 (apn R) fun t31 w39 =>
aar .lss t31 (.i 0) fun t32 =>
acnd t32 (abld [.i 0, .nil] [] fun t34 =>
ast 2 t4 t34 w39 fun w40 =>
aldN 2 t4 w40 fun r0 =>
R (.ret (.tuple [r0, .i 1])) w40) (j3 [] w39))
theorem A17_eq : A17 = fun a0 a1 L R => aex pr ⟨[(6, []), (9, [38]), (33, [8, 64]), (45, [81]), (53, [89]), (67, [110]), (79, [127])], [(28, [(0, 0), (1, 0), (2, 0), (3, 0), (4, 0), (5, 0), (6, 2), (7, 0), (8, 2)])]⟩ (bodyOf fn17) (aenv0 [a0, a1]) L (apost pr fn17.results.toList R) := by kernel_rfl
theorem s17 {a0 a1 : D} {L : List Bx} {R : AE → List Bx → Prop} (h : A17 a0 a1 L R) : ASpec pr 17 [a0, a1] L R :=
  aspec_of (A := ⟨[(6, []), (9, [38]), (33, [8, 64]), (45, [81]), (53, [89]), (67, [110]), (79, [127])], [(28, [(0, 0), (1, 0), (2, 0), (3, 0), (4, 0), (5, 0), (6, 2), (7, 0), (8, 2)])]⟩) (fn := fn17) 2 mixed Tryz.func17 (by kernel_rfl) (by decide) rfl (by kernel_rfl) (by rw [A17_eq] at h; exact h)
noncomputable abbrev fn12 : Func := Tryz.f12
/- ashlar/ashlarlaw13.names -/
def A12 (a0 a1 : D) (L : List Bx) (R : AE → List Bx → Prop) : Prop :=
alenL a0 fun t7 =>
alenL a1 fun t9 =>
aar .neq t7 t9 fun t10 =>
acnd t10 (R (.ret (.b false)) L) (alp [.i 0] L fun v4 w1 k4 =>
alenL a0 fun t13 =>
aar .lss (aix v4 0) t13 fun t14 =>
acnd t14 (aidxS 1 a0 (aix v4 0) fun t19 =>
ald1 t19 w1 fun t20 =>
aidxS 1 a1 (aix v4 0) fun t23 =>
ald1 t23 w1 fun t24 =>
aar .neq t20 t24 fun t25 =>
acnd t25 (R (.ret (.b false)) w1) (aar .add (aix v4 0) (.i 1) fun t16 =>
k4 [t16] w1)) (R (.ret (.b true)) w1))
theorem A12_eq : A12 = fun a0 a1 L R => aex pr ⟨[(9, [5])], [(6, [(0, 0), (1, 0), (2, 0), (3, 0), (4, 0), (5, 0), (6, 0), (7, 0), (8, 0)])]⟩ (bodyOf fn12) (aenv0 [a0, a1]) L (apost pr fn12.results.toList R) := by kernel_rfl
theorem s12 {a0 a1 : D} {L : List Bx} {R : AE → List Bx → Prop} (h : A12 a0 a1 L R) : ASpec pr 12 [a0, a1] L R :=
  aspec_of (A := ⟨[(9, [5])], [(6, [(0, 0), (1, 0), (2, 0), (3, 0), (4, 0), (5, 0), (6, 0), (7, 0), (8, 0)])]⟩) (fn := fn12) 2 mixed Tryz.func12 (by kernel_rfl) (by decide) rfl (by kernel_rfl) (by rw [A12_eq] at h; exact h)
noncomputable abbrev fn26 : Func := Tryz.f26
/- ashlar/ashlarlaw13.numbers -/
def A26 (a0 a1 : D) (L : List Bx) (R : AE → List Bx → Prop) : Prop :=
alenL a0 fun t7 =>
alenL a1 fun t9 =>
aar .neq t7 t9 fun t10 =>
acnd t10 (R (.ret (.b false)) L) (alp [.i 0] L fun v4 w1 k4 =>
alenL a0 fun t13 =>
aar .lss (aix v4 0) t13 fun t14 =>
acnd t14 (aidxS 1 a0 (aix v4 0) fun t19 =>
ald1 t19 w1 fun t20 =>
aidxS 1 a1 (aix v4 0) fun t23 =>
ald1 t23 w1 fun t24 =>
aar .neq t20 t24 fun t25 =>
acnd t25 (R (.ret (.b false)) w1) (aar .add (aix v4 0) (.i 1) fun t16 =>
k4 [t16] w1)) (R (.ret (.b true)) w1))
theorem A26_eq : A26 = fun a0 a1 L R => aex pr ⟨[(9, [5])], [(6, [(0, 0), (1, 0), (2, 0), (3, 0), (4, 0), (5, 0), (6, 0), (7, 0), (8, 0)])]⟩ (bodyOf fn26) (aenv0 [a0, a1]) L (apost pr fn26.results.toList R) := by kernel_rfl
theorem s26 {a0 a1 : D} {L : List Bx} {R : AE → List Bx → Prop} (h : A26 a0 a1 L R) : ASpec pr 26 [a0, a1] L R :=
  aspec_of (A := ⟨[(9, [5])], [(6, [(0, 0), (1, 0), (2, 0), (3, 0), (4, 0), (5, 0), (6, 0), (7, 0), (8, 0)])]⟩) (fn := fn26) 2 mixed Tryz.func26 (by kernel_rfl) (by decide) rfl (by kernel_rfl) (by rw [A26_eq] at h; exact h)
noncomputable abbrev fn23 : Func := Tryz.f23
/- ashlar/ashlarlaw13.same -/
def A23 (a0 a1 : D) (L : List Bx) (R : AE → List Bx → Prop) : Prop :=
alenL a0 fun t7 =>
alenL a1 fun t9 =>
aar .neq t7 t9 fun t10 =>
acnd t10 (R (.ret (.b false)) L) (alp [.i 0] L fun v4 w1 k4 =>
alenL a0 fun t13 =>
aar .lss (aix v4 0) t13 fun t14 =>
acnd t14 (aidxS 2 a0 (aix v4 0) fun t19 =>
afld 1 t19 fun t20 =>
ald1 t20 w1 fun t21 =>
aidxS 2 a1 (aix v4 0) fun t24 =>
afld 1 t24 fun t25 =>
ald1 t25 w1 fun t26 =>
aar .neq t21 t26 fun t27 =>
acnd t27 (R (.ret (.b false)) w1) (aidxS 2 a0 (aix v4 0) fun t31 =>
afld 0 t31 fun t32 =>
ald1 t32 w1 fun t33 =>
aidxS 2 a1 (aix v4 0) fun t36 =>
afld 0 t36 fun t37 =>
ald1 t37 w1 fun t38 =>
acallS pr 26 [t33, t38] w1 (fun _ _ => False) fun t39 w2 =>
anotb t39 fun t40 =>
acnd t40 (R (.ret (.b false)) w2) (aar .add (aix v4 0) (.i 1) fun t16 =>
k4 [t16] w2))) (R (.ret (.b true)) w1))
theorem A23_eq : A23 = fun a0 a1 L R => aex pr ⟨[(9, [5])], [(6, [(0, 0), (1, 0), (2, 0), (3, 0), (4, 0), (5, 0), (6, 0), (7, 0), (8, 0), (9, 0), (10, 0), (11, 0), (12, 0), (13, 0), (14, 0), (15, 0), (16, 0), (17, 0), (18, 0), (19, 0), (20, 0), (21, 0), (22, 0), (23, 0), (24, 0)])]⟩ (bodyOf fn23) (aenv0 [a0, a1]) L (apost pr fn23.results.toList R) := by kernel_rfl
theorem s23 {a0 a1 : D} {L : List Bx} {R : AE → List Bx → Prop} (h : A23 a0 a1 L R) : ASpec pr 23 [a0, a1] L R :=
  aspec_of (A := ⟨[(9, [5])], [(6, [(0, 0), (1, 0), (2, 0), (3, 0), (4, 0), (5, 0), (6, 0), (7, 0), (8, 0), (9, 0), (10, 0), (11, 0), (12, 0), (13, 0), (14, 0), (15, 0), (16, 0), (17, 0), (18, 0), (19, 0), (20, 0), (21, 0), (22, 0), (23, 0), (24, 0)])]⟩) (fn := fn23) 2 mixed Tryz.func23 (by kernel_rfl) (by decide) rfl (by kernel_rfl) (by rw [A23_eq] at h; exact h)
noncomputable abbrev fn27 : Func := Tryz.f27
/- ashlar/ashlarlaw13.worlds -/
def A27 (a0 a1 : D) (L : List Bx) (R : AE → List Bx → Prop) : Prop :=
abxv a0 L fun t2 w1 =>
abxv a1 w1 fun t3 w2 =>
ajn (fun v3 w3 =>
alp [.i 0] w3 fun v4 w4 k4 =>
afld 1 t2 fun t21 =>
ald1 t21 w4 fun t22 =>
alenL t22 fun t23 =>
aar .lss (aix v4 0) t23 fun t24 =>
acnd t24 (afld 1 t2 fun t27 =>
ald1 t27 w4 fun t28 =>
aidxS 5 t28 (aix v4 0) fun t30 =>
afld 0 t30 fun t31 =>
ald1 t31 w4 fun t32 =>
afld 1 t3 fun t33 =>
ald1 t33 w4 fun t34 =>
aidxS 5 t34 (aix v4 0) fun t36 =>
afld 0 t36 fun t37 =>
ald1 t37 w4 fun t38 =>
aar .neq t32 t38 fun t39 =>
acnd t39 (R (.ret (.b false)) w4) (afld 1 t2 fun t41 =>
ald1 t41 w4 fun t42 =>
aidxS 5 t42 (aix v4 0) fun t44 =>
afld 1 t44 fun t45 =>
aldN 4 t45 w4 fun t46 =>
afld 1 t3 fun t47 =>
ald1 t47 w4 fun t48 =>
aidxS 5 t48 (aix v4 0) fun t50 =>
afld 1 t50 fun t51 =>
aldN 4 t51 w4 fun t52 =>
acallS pr 63 [t46, t52] w4 (fun _ _ => False) fun t53 w5 =>
anotb t53 fun t54 =>
acnd t54 (R (.ret (.b false)) w5) (aar .add (aix v4 0) (.i 1) fun t26 =>
k4 [t26] w5))) (R (.ret (.b true)) w4)) fun j3 =>
afld 0 t2 fun t6 =>
ald1 t6 w2 fun t7 =>
afld 0 t3 fun t8 =>
ald1 t8 w2 fun t9 =>
aar .neq t7 t9 fun t10 =>
acnd t10 (R (.ret (.b false)) w2) (afld 1 t2 fun t12 =>
ald1 t12 w2 fun t13 =>
alenL t13 fun t14 =>
afld 1 t3 fun t15 =>
ald1 t15 w2 fun t16 =>
alenL t16 fun t17 =>
aar .neq t14 t17 fun t18 =>
acnd t18 (R (.ret (.b false)) w2) (j3 [] w2))
theorem A27_eq : A27 = fun a0 a1 L R => aex pr ⟨[(6, []), (9, [5])], [(6, [(0, 0), (1, 0), (2, 0), (3, 0), (4, 0), (5, 0), (6, 0), (7, 0), (8, 0), (9, 0), (10, 0), (11, 0), (12, 0), (13, 0), (14, 0), (15, 0), (16, 0), (17, 0), (18, 0), (19, 0), (20, 0), (21, 0), (22, 0), (23, 0), (24, 0), (25, 0), (26, 0), (27, 0), (28, 0)])]⟩ (bodyOf fn27) (aenv0 [a0, a1]) L (apost pr fn27.results.toList R) := by kernel_rfl
theorem s27 {a0 a1 : D} {L : List Bx} {R : AE → List Bx → Prop} (h : A27 a0 a1 L R) : ASpec pr 27 [a0, a1] L R :=
  aspec_of (A := ⟨[(6, []), (9, [5])], [(6, [(0, 0), (1, 0), (2, 0), (3, 0), (4, 0), (5, 0), (6, 0), (7, 0), (8, 0), (9, 0), (10, 0), (11, 0), (12, 0), (13, 0), (14, 0), (15, 0), (16, 0), (17, 0), (18, 0), (19, 0), (20, 0), (21, 0), (22, 0), (23, 0), (24, 0), (25, 0), (26, 0), (27, 0), (28, 0)])]⟩) (fn := fn27) 2 mixed Tryz.func27 (by kernel_rfl) (by decide) rfl (by kernel_rfl) (by rw [A27_eq] at h; exact h)
end Go.Proofs.YtokpeggkofjclaaGreatDoor
