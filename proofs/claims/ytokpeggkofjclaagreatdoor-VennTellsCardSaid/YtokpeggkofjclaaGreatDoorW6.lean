/- What must hold ahead of a call, function by function: printed by a program. -/
import Derived.Test.YtokpeggkofjclaaGreatDoorW1
import Derived.KernelRfl
set_option maxRecDepth 100000
set_option linter.unusedVariables false
namespace Go.Proofs.YtokpeggkofjclaaGreatDoor
open Go Go.V
noncomputable abbrev fn143 : Func := Tryz.f143
/- math/bits.Mul64 -/
def A143 (a0 a1 : D) (L : List Bx) (R : AE → List Bx → Prop) : Prop :=
aar .and a0 (.val (.int .u64 4294967295)) fun t15 =>
aar .shr a0 (.val (.int .u64 32)) fun t17 =>
aar .and a1 (.val (.int .u64 4294967295)) fun t19 =>
aar .shr a1 (.val (.int .u64 32)) fun t21 =>
aar .mul t15 t19 fun t24 =>
aar .mul t17 t19 fun t27 =>
aar .shr t24 (.val (.int .u64 32)) fun t29 =>
aar .add t27 t29 fun t30 =>
aar .and t30 (.val (.int .u64 4294967295)) fun t32 =>
aar .shr t30 (.val (.int .u64 32)) fun t34 =>
aar .mul t15 t21 fun t38 =>
aar .add t32 t38 fun t39 =>
aar .mul t17 t21 fun t42 =>
aar .add t42 t34 fun t44 =>
aar .shr t39 (.val (.int .u64 32)) fun t46 =>
aar .add t44 t46 fun t47 =>
aar .mul a0 a1 fun t50 =>
R (.ret (.tuple [t47, t50])) L
theorem A143_eq : A143 = fun a0 a1 L R => aex pr ⟨[], []⟩ (bodyOf fn143) (aenv0 [a0, a1]) L (apost pr fn143.results.toList R) := by kernel_rfl
theorem s143 {a0 a1 : D} {L : List Bx} {R : AE → List Bx → Prop} (h : A143 a0 a1 L R) : ASpec pr 143 [a0, a1] L R :=
  aspec_of (A := ⟨[], []⟩) (fn := fn143) 2 mixed Tryz.func143 (by kernel_rfl) (by decide) rfl (by kernel_rfl) (by rw [A143_eq] at h; exact h)
noncomputable abbrev fn132 : Func := Tryz.f132
/- ashlar/num.size -/
def A132 (a0 : D) (L : List Bx) (R : AE → List Bx → Prop) : Prop :=
aar .lss a0 (.i 0) fun t4 =>
acnd t4 (acvI .u64 a0 fun t6 =>
aneg t6 fun t7 =>
R (.ret t7) L) (acvI .u64 a0 fun t9 =>
R (.ret t9) L)
theorem A132_eq : A132 = fun a0 L R => aex pr ⟨[], []⟩ (bodyOf fn132) (aenv0 [a0]) L (apost pr fn132.results.toList R) := by kernel_rfl
theorem s132 {a0 : D} {L : List Bx} {R : AE → List Bx → Prop} (h : A132 a0 L R) : ASpec pr 132 [a0] L R :=
  aspec_of (A := ⟨[], []⟩) (fn := fn132) 1 mixed Tryz.func132 (by kernel_rfl) (by decide) rfl (by kernel_rfl) (by rw [A132_eq] at h; exact h)
noncomputable abbrev fn134 : Func := Tryz.f134
/- (ashlar/num.wide).less -/
def A134 (a0 a1 : D) (L : List Bx) (R : AE → List Bx → Prop) : Prop :=
abxv a0 L fun t2 w1 =>
abxv a1 w1 fun t3 w2 =>
afld 1 t2 fun t5 =>
ald1 t5 w2 fun t6 =>
afld 1 t3 fun t7 =>
ald1 t7 w2 fun t8 =>
aar .lss t6 t8 fun t9 =>
acnd t9 (R (.ret (.b true)) w2) (afld 1 t2 fun t11 =>
ald1 t11 w2 fun t12 =>
afld 1 t3 fun t13 =>
ald1 t13 w2 fun t14 =>
aar .eql t12 t14 fun t15 =>
ajn (fun y22 w3 =>
R (.ret (aix y22 0)) w3) fun j22 =>
acnd t15 (afld 2 t2 fun t17 =>
ald1 t17 w2 fun t18 =>
afld 2 t3 fun t19 =>
ald1 t19 w2 fun t20 =>
aar .lss t18 t20 fun t21 =>
j22 [t21] w2) (j22 [.b false] w2))
theorem A134_eq : A134 = fun a0 a1 L R => aex pr ⟨[(3000022, [])], []⟩ (bodyOf fn134) (aenv0 [a0, a1]) L (apost pr fn134.results.toList R) := by kernel_rfl
theorem s134 {a0 a1 : D} {L : List Bx} {R : AE → List Bx → Prop} (h : A134 a0 a1 L R) : ASpec pr 134 [a0, a1] L R :=
  aspec_of (A := ⟨[(3000022, [])], []⟩) (fn := fn134) 2 mixed Tryz.func134 (by kernel_rfl) (by decide) rfl (by kernel_rfl) (by rw [A134_eq] at h; exact h)
noncomputable abbrev fn129 : Func := Tryz.f129
/- ashlar/num.product -/
def A129 (a0 a1 : D) (L : List Bx) (R : AE → List Bx → Prop) : Prop :=
abx [.b false, .val (.int .u64 0), .val (.int .u64 0)] L fun t4 w1 =>
acallW pr 132 [a0] w1 (apn R) fun t9 w2 =>
acallW pr 132 [a1] w2 (apn R) fun t11 w3 =>
acallW pr 143 [t9, t11] w3 (apn R) fun t12 w4 =>
aext 0 t12 fun t13 =>
aext 1 t12 fun t14 =>
aar .lss a0 (.i 0) fun t16 =>
aar .lss a1 (.i 0) fun t18 =>
aarB .neq t16 t18 fun t19 =>
abld [.b false, .val (.int .u64 0), .val (.int .u64 0)] [(0, 1, t19), (1, 1, t13), (2, 1, t14)] fun t22 =>
ast 3 t4 t22 w4 fun w5 =>
aldN 3 t4 w5 fun r0 =>
R (.ret r0) w5
theorem A129_eq : A129 = fun a0 a1 L R => aex pr ⟨[], []⟩ (bodyOf fn129) (aenv0 [a0, a1]) L (apost pr fn129.results.toList R) := by kernel_rfl
theorem s129 {a0 a1 : D} {L : List Bx} {R : AE → List Bx → Prop} (h : A129 a0 a1 L R) : ASpec pr 129 [a0, a1] L R :=
  aspec_of (A := ⟨[], []⟩) (fn := fn129) 2 mixed Tryz.func129 (by kernel_rfl) (by decide) rfl (by kernel_rfl) (by rw [A129_eq] at h; exact h)
noncomputable abbrev fn89 : Func := Tryz.f89
/- ashlar/num.of -/
def A89 (a0 : D) (L : List Bx) (R : AE → List Bx → Prop) : Prop :=
abx [.b false, .val (.int .u64 0), .val (.int .u64 0)] L fun t2 w1 =>
aar .lss a0 (.i 0) fun t4 =>
acallW pr 132 [a0] w1 (apn R) fun t6 w2 =>
abld [.b false, .val (.int .u64 0), .val (.int .u64 0)] [(0, 1, t4), (1, 1, .val (.int .u64 0)), (2, 1, t6)] fun t7 =>
ast 3 t2 t7 w2 fun w3 =>
aldN 3 t2 w3 fun r0 =>
R (.ret r0) w3
theorem A89_eq : A89 = fun a0 L R => aex pr ⟨[], []⟩ (bodyOf fn89) (aenv0 [a0]) L (apost pr fn89.results.toList R) := by kernel_rfl
theorem s89 {a0 : D} {L : List Bx} {R : AE → List Bx → Prop} (h : A89 a0 L R) : ASpec pr 89 [a0] L R :=
  aspec_of (A := ⟨[], []⟩) (fn := fn89) 1 mixed Tryz.func89 (by kernel_rfl) (by decide) rfl (by kernel_rfl) (by rw [A89_eq] at h; exact h)
noncomputable abbrev fn91 : Func := Tryz.f91
/- (ashlar/num.wide).neg -/
def A91 (a0 : D) (L : List Bx) (R : AE → List Bx → Prop) : Prop :=
abxv a0 L fun t1 w1 =>
abx [.b false, .val (.int .u64 0), .val (.int .u64 0)] w1 fun t2 w2 =>
afld 0 t1 fun t3 =>
ald1 t3 w2 fun t4 =>
anotb t4 fun t5 =>
afld 1 t1 fun t6 =>
ald1 t6 w2 fun t7 =>
afld 2 t1 fun t8 =>
ald1 t8 w2 fun t9 =>
abld [.b false, .val (.int .u64 0), .val (.int .u64 0)] [(0, 1, t5), (1, 1, t7), (2, 1, t9)] fun t10 =>
ast 3 t2 t10 w2 fun w3 =>
aldN 3 t2 w3 fun r0 =>
R (.ret r0) w3
theorem A91_eq : A91 = fun a0 L R => aex pr ⟨[], []⟩ (bodyOf fn91) (aenv0 [a0]) L (apost pr fn91.results.toList R) := by kernel_rfl
theorem s91 {a0 : D} {L : List Bx} {R : AE → List Bx → Prop} (h : A91 a0 L R) : ASpec pr 91 [a0] L R :=
  aspec_of (A := ⟨[], []⟩) (fn := fn91) 1 mixed Tryz.func91 (by kernel_rfl) (by decide) rfl (by kernel_rfl) (by rw [A91_eq] at h; exact h)
noncomputable abbrev fn90 : Func := Tryz.f90
/- (ashlar/num.wide).plus -/
def A90 (a0 a1 : D) (L : List Bx) (R : AE → List Bx → Prop) : Prop :=
abxv a0 L fun t2 w1 =>
abxv a1 w1 fun t3 w2 =>
abx [.b false, .val (.int .u64 0), .val (.int .u64 0)] w2 fun t4 w3 =>
afld 0 t2 fun t13 =>
ald1 t13 w3 fun t14 =>
afld 0 t3 fun t15 =>
ald1 t15 w3 fun t16 =>
aarB .eql t14 t16 fun t17 =>
acnd t17 (afld 2 t2 fun t19 =>
ald1 t19 w3 fun t20 =>
afld 2 t3 fun t21 =>
ald1 t21 w3 fun t22 =>
acallW pr 133 [t20, t22, .val (.int .u64 0)] w3 (apn R) fun t23 w4 =>
aext 0 t23 fun t24 =>
aext 1 t23 fun t25 =>
afld 1 t2 fun t27 =>
ald1 t27 w4 fun t28 =>
afld 1 t3 fun t29 =>
ald1 t29 w4 fun t30 =>
acallW pr 133 [t28, t30, t25] w4 (apn R) fun t32 w5 =>
aext 0 t32 fun t33 =>
aext 1 t32 fun t34 =>
afld 0 t2 fun t35 =>
ald1 t35 w5 fun t36 =>
abld [.b false, .val (.int .u64 0), .val (.int .u64 0)] [(0, 1, t36), (1, 1, t33), (2, 1, t24)] fun t39 =>
ast 3 t4 t39 w5 fun w6 =>
aldN 3 t4 w6 fun r0 =>
R (.ret r0) w6) (ajn (fun v7 w7 =>
afld 2 t2 fun t46 =>
ald1 t46 w7 fun t47 =>
afld 2 t3 fun t48 =>
ald1 t48 w7 fun t49 =>
acallW pr 135 [t47, t49, .val (.int .u64 0)] w7 (apn R) fun t50 w8 =>
aext 0 t50 fun t51 =>
aext 1 t50 fun t52 =>
afld 1 t2 fun t54 =>
ald1 t54 w8 fun t55 =>
afld 1 t3 fun t56 =>
ald1 t56 w8 fun t57 =>
acallW pr 135 [t55, t57, t52] w8 (apn R) fun t59 w9 =>
aext 0 t59 fun t60 =>
aext 1 t59 fun t61 =>
afld 0 t2 fun t62 =>
ald1 t62 w9 fun t63 =>
abld [.b false, .val (.int .u64 0), .val (.int .u64 0)] [(0, 1, t63), (1, 1, t60), (2, 1, t51)] fun t66 =>
ast 3 t4 t66 w9 fun w10 =>
aldN 3 t4 w10 fun r0 =>
R (.ret r0) w10) fun j7 =>
aldN 3 t2 w3 fun t40 =>
aldN 3 t3 w3 fun t41 =>
acallW pr 134 [t40, t41] w3 (apn R) fun t42 w11 =>
acnd t42 (aldN 3 t3 w11 fun t43 =>
aldN 3 t2 w11 fun t44 =>
ast 3 t2 t43 w11 fun w12 =>
ast 3 t3 t44 w12 fun w13 =>
j7 [] w13) (j7 [] w11))
theorem A90_eq : A90 = fun a0 a1 L R => aex pr ⟨[(14, [])], []⟩ (bodyOf fn90) (aenv0 [a0, a1]) L (apost pr fn90.results.toList R) := by kernel_rfl
theorem s90 {a0 a1 : D} {L : List Bx} {R : AE → List Bx → Prop} (h : A90 a0 a1 L R) : ASpec pr 90 [a0, a1] L R :=
  aspec_of (A := ⟨[(14, [])], []⟩) (fn := fn90) 2 mixed Tryz.func90 (by kernel_rfl) (by decide) rfl (by kernel_rfl) (by rw [A90_eq] at h; exact h)
noncomputable abbrev fn131 : Func := Tryz.f131
/- (ashlar/num.wide).int64 -/
def A131 (a0 : D) (L : List Bx) (R : AE → List Bx → Prop) : Prop :=
abxv a0 L fun t1 w1 =>
ajn (fun v2 w2 =>
acnd (aix v2 0) (abld [] [] fun t22 =>
apn R (.ifc 191 t22) w2) (afld 0 t1 fun t25 =>
ald1 t25 w2 fun t26 =>
acnd t26 (afld 2 t1 fun t27 =>
ald1 t27 w2 fun t28 =>
aneg t28 fun t29 =>
acvI .i64 t29 fun t30 =>
R (.ret t30) w2) (afld 2 t1 fun t31 =>
ald1 t31 w2 fun t32 =>
acvI .i64 t32 fun t33 =>
R (.ret t33) w2))) fun j2 =>
afld 1 t1 fun t4 =>
ald1 t4 w1 fun t5 =>
aar .gtr t5 (.val (.int .u64 0)) fun t6 =>
acnd t6 (j2 [.b true] w1) (afld 2 t1 fun t8 =>
ald1 t8 w1 fun t9 =>
aar .gtr t9 (.val (.int .u64 9223372036854775808)) fun t10 =>
acnd t10 (j2 [.b true] w1) (afld 2 t1 fun t13 =>
ald1 t13 w1 fun t14 =>
aar .eql t14 (.val (.int .u64 9223372036854775808)) fun t15 =>
ajn (fun y20 w3 =>
j2 [aix y20 0] w3) fun j20 =>
acnd t15 (afld 0 t1 fun t17 =>
ald1 t17 w1 fun t18 =>
anotb t18 fun t19 =>
j20 [t19] w1) (j20 [.b false] w1)))
theorem A131_eq : A131 = fun a0 L R => aex pr ⟨[(4, [3]), (3000020, [])], []⟩ (bodyOf fn131) (aenv0 [a0]) L (apost pr fn131.results.toList R) := by kernel_rfl
theorem s131 {a0 : D} {L : List Bx} {R : AE → List Bx → Prop} (h : A131 a0 L R) : ASpec pr 131 [a0] L R :=
  aspec_of (A := ⟨[(4, [3]), (3000020, [])], []⟩) (fn := fn131) 1 mixed Tryz.func131 (by kernel_rfl) (by decide) rfl (by kernel_rfl) (by rw [A131_eq] at h; exact h)
noncomputable abbrev fn160 : Func := Tryz.f160
/- ashlar/num.fits[int64]$1 -/
def A160 (a0 a1 : D) (m : Option D) (L : List Bx) (R : Option D → List Bx → Prop) : Prop :=
aeqI .eql ((recD m)) (.val (.nilIface)) fun t8 =>
acnd t8 (R none L) (atas 191 (.agg []) ((recD m)) true fun t9 =>
aext 1 t9 fun t10 =>
aext 0 t9 fun t11 =>
acnd t10 (abx [] L fun t3 w1 =>
ast0 t3 t11 w1 fun w2 =>
ast 1 a0 (.i 0) w2 fun w3 =>
ast 1 a1 (.b false) w3 fun w4 =>
R none w4) (apnF ((recD m))))
theorem A160_eq : A160 = fun a0 a1 m L R => aexR pr ⟨[], []⟩ R m (bodyOf fn160) (aenv0 [a0, a1]) L := by kernel_rfl
theorem s160 {a0 a1 : D} {m : Option D} {L : List Bx} {R : Option D → List Bx → Prop} (h : A160 a0 a1 m L R) : ADef pr 160 [a0, a1] m L R :=
  adef_of (A := ⟨[], []⟩) (fn := fn160) 2 mixed Tryz.func160 (by kernel_rfl) (by decide) rfl rfl (by kernel_rfl) (by rw [A160_eq] at h; exact h)
noncomputable abbrev fn130 : Func := Tryz.f130
def K130 (t2 t3 : D) (R : AE → List Bx → Prop) (m : Option D) (L : List Bx) : Prop :=
ADef pr 160 [t2, t3] m L fun m w => aend R m w (ald1 t2 w fun r0 =>
ald1 t3 w fun r1 =>
R (.ret (.tuple [r0, r1])) w)
/- ashlar/num.fits[int64] -/
def A130 (a0 : D) (L : List Bx) (R : AE → List Bx → Prop) : Prop :=
abx [.i 0] L fun t2 w1 =>
abx [.b false] w1 fun t3 w2 =>
acallF pr false a0 [] w2 (fun c w => K130 t2 t3 R (some c) w) fun t6 w3 =>
ast 1 t2 t6 w3 fun w4 =>
ast 1 t3 (.b true) w4 fun w5 =>
K130 t2 t3 R none w5
theorem A130_eq : A130 = fun a0 L R => aexD pr ⟨[], []⟩ fn130.results.toList R (bodyOf fn130) (aenv0 [a0]) L := by kernel_rfl
theorem s130 {a0 : D} {L : List Bx} {R : AE → List Bx → Prop} (h : A130 a0 L R) : ASpec pr 130 [a0] L R :=
  aspec_ofD (A := ⟨[], []⟩) (fn := fn130) 1 mixed Tryz.func130 (by kernel_rfl) (by decide) rfl (by kernel_rfl) (by rw [A130_eq] at h; exact h)
noncomputable abbrev fn88 : Func := Tryz.f88
/- ashlar/num.whole -/
def A88 (a0 : D) (L : List Bx) (R : AE → List Bx → Prop) : Prop :=
abxv a0 L fun t1 w1 =>
aldN 3 t1 w1 fun t4 =>
acallW pr 130 [.fn 131 [t4] []] w1 (apn R) fun t6 w2 =>
aext 0 t6 fun t7 =>
aext 1 t6 fun t8 =>
R (.ret (.tuple [t7, t8])) w2
theorem A88_eq : A88 = fun a0 L R => aex pr ⟨[], []⟩ (bodyOf fn88) (aenv0 [a0]) L (apost pr fn88.results.toList R) := by kernel_rfl
theorem s88 {a0 : D} {L : List Bx} {R : AE → List Bx → Prop} (h : A88 a0 L R) : ASpec pr 88 [a0] L R :=
  aspec_of (A := ⟨[], []⟩) (fn := fn88) 1 mixed Tryz.func88 (by kernel_rfl) (by decide) rfl (by kernel_rfl) (by rw [A88_eq] at h; exact h)
noncomputable abbrev fn86 : Func := Tryz.f86
/- ashlar/num.Mul -/
def A86 (a0 a1 : D) (L : List Bx) (R : AE → List Bx → Prop) : Prop :=
acallW pr 129 [a0, a1] L (apn R) fun t8 w1 =>
acallW pr 88 [t8] w1 (apn R) fun t9 w2 =>
aext 0 t9 fun t10 =>
aext 1 t9 fun t11 =>
R (.ret (.tuple [t10, t11])) w2
theorem A86_eq : A86 = fun a0 a1 L R => aex pr ⟨[], []⟩ (bodyOf fn86) (aenv0 [a0, a1]) L (apost pr fn86.results.toList R) := by kernel_rfl
theorem s86 {a0 a1 : D} {L : List Bx} {R : AE → List Bx → Prop} (h : A86 a0 a1 L R) : ASpec pr 86 [a0, a1] L R :=
  aspec_of (A := ⟨[], []⟩) (fn := fn86) 2 mixed Tryz.func86 (by kernel_rfl) (by decide) rfl (by kernel_rfl) (by rw [A86_eq] at h; exact h)
noncomputable abbrev fn42 : Func := Tryz.f42
/- ashlar/num.Add -/
def A42 (a0 a1 : D) (L : List Bx) (R : AE → List Bx → Prop) : Prop :=
acallW pr 89 [a0] L (apn R) fun t7 w1 =>
acallW pr 89 [a1] w1 (apn R) fun t9 w2 =>
acallW pr 90 [t7, t9] w2 (apn R) fun t10 w3 =>
acallW pr 88 [t10] w3 (apn R) fun t11 w4 =>
aext 0 t11 fun t12 =>
aext 1 t11 fun t13 =>
R (.ret (.tuple [t12, t13])) w4
theorem A42_eq : A42 = fun a0 a1 L R => aex pr ⟨[], []⟩ (bodyOf fn42) (aenv0 [a0, a1]) L (apost pr fn42.results.toList R) := by kernel_rfl
theorem s42 {a0 a1 : D} {L : List Bx} {R : AE → List Bx → Prop} (h : A42 a0 a1 L R) : ASpec pr 42 [a0, a1] L R :=
  aspec_of (A := ⟨[], []⟩) (fn := fn42) 2 mixed Tryz.func42 (by kernel_rfl) (by decide) rfl (by kernel_rfl) (by rw [A42_eq] at h; exact h)
noncomputable abbrev fn39 : Func := Tryz.f39
/- ashlar/num.Sub -/
def A39 (a0 a1 : D) (L : List Bx) (R : AE → List Bx → Prop) : Prop :=
acallW pr 89 [a0] L (apn R) fun t7 w1 =>
acallW pr 89 [a1] w1 (apn R) fun t9 w2 =>
acallW pr 91 [t9] w2 (apn R) fun t10 w3 =>
acallW pr 90 [t7, t10] w3 (apn R) fun t11 w4 =>
acallW pr 88 [t11] w4 (apn R) fun t12 w5 =>
aext 0 t12 fun t13 =>
aext 1 t12 fun t14 =>
R (.ret (.tuple [t13, t14])) w5
theorem A39_eq : A39 = fun a0 a1 L R => aex pr ⟨[], []⟩ (bodyOf fn39) (aenv0 [a0, a1]) L (apost pr fn39.results.toList R) := by kernel_rfl
theorem s39 {a0 a1 : D} {L : List Bx} {R : AE → List Bx → Prop} (h : A39 a0 a1 L R) : ASpec pr 39 [a0, a1] L R :=
  aspec_of (A := ⟨[], []⟩) (fn := fn39) 2 mixed Tryz.func39 (by kernel_rfl) (by decide) rfl (by kernel_rfl) (by rw [A39_eq] at h; exact h)
noncomputable abbrev fn140 : Func := Tryz.f140
/- slices.Clone[[]bool,bool] -/
def A140 (a0 : D) (L : List Bx) (R : AE → List Bx → Prop) : Prop :=
aeqS false .eql a0 (.nil) fun t4 =>
acnd t4 (R (.ret (.nil)) L) (abldS 4 1 0 [] [] L fun t5 w1 =>
aapp 4 1 1 t5 a0 w1 fun t7 w2 =>
R (.ret t7) w2)
theorem A140_eq : A140 = fun a0 L R => aex pr ⟨[], []⟩ (bodyOf fn140) (aenv0 [a0]) L (apost pr fn140.results.toList R) := by kernel_rfl
theorem s140 {a0 : D} {L : List Bx} {R : AE → List Bx → Prop} (h : A140 a0 L R) : ASpec pr 140 [a0] L R :=
  aspec_of (A := ⟨[], []⟩) (fn := fn140) 1 mixed Tryz.func140 (by kernel_rfl) (by decide) rfl (by kernel_rfl) (by rw [A140_eq] at h; exact h)
noncomputable abbrev fn97 : Func := Tryz.f97
/- ashlar/eval.own -/
def A97 (a0 : D) (L : List Bx) (R : AE → List Bx → Prop) : Prop :=
abxv a0 L fun t1 w1 =>
abx [.i 0, .i 0, .b false, .nil] w1 fun t2 w2 =>
afld 3 t1 fun t3 =>
ald1 t3 w2 fun t4 =>
acallW pr 140 [t4] w2 (apn R) fun t5 w3 =>
afld 3 t1 fun t6 =>
ast 1 t6 t5 w3 fun w4 =>
aldN 4 t1 w4 fun t7 =>
ast 4 t2 t7 w4 fun w5 =>
aldN 4 t2 w5 fun r0 =>
R (.ret r0) w5
theorem A97_eq : A97 = fun a0 L R => aex pr ⟨[], []⟩ (bodyOf fn97) (aenv0 [a0]) L (apost pr fn97.results.toList R) := by kernel_rfl
theorem s97 {a0 : D} {L : List Bx} {R : AE → List Bx → Prop} (h : A97 a0 L R) : ASpec pr 97 [a0] L R :=
  aspec_of (A := ⟨[], []⟩) (fn := fn97) 1 mixed Tryz.func97 (by kernel_rfl) (by decide) rfl (by kernel_rfl) (by rw [A97_eq] at h; exact h)
noncomputable abbrev fn139 : Func := Tryz.f139
/- ashlar/eval.find$1 -/
def A139 (a0 a1 a2 : D) (L : List Bx) (R : AE → List Bx → Prop) : Prop :=
abxv a0 L fun t3 w1 =>
afld 0 t3 fun t5 =>
ald1 t5 w1 fun t6 =>
ald1 a1 w1 fun t7 =>
aar .eql t6 t7 fun t8 =>
acnd t8 (afld 1 t3 fun t10 =>
afld 0 t10 fun t11 =>
ald1 t11 w1 fun t12 =>
ald1 a2 w1 fun t13 =>
aar .eql t12 t13 fun t14 =>
R (.ret t14) w1) (R (.ret (.b false)) w1)
theorem A139_eq : A139 = fun a0 a1 a2 L R => aex pr ⟨[], []⟩ (bodyOf fn139) (aenv0 [a0, a1, a2]) L (apost pr fn139.results.toList R) := by kernel_rfl
theorem s139 {a0 a1 a2 : D} {L : List Bx} {R : AE → List Bx → Prop} (h : A139 a0 a1 a2 L R) : ASpec pr 139 [a0, a1, a2] L R :=
  aspec_of (A := ⟨[], []⟩) (fn := fn139) 3 mixed Tryz.func139 (by kernel_rfl) (by decide) rfl (by kernel_rfl) (by rw [A139_eq] at h; exact h)
noncomputable abbrev fn138 : Func := Tryz.f138
/- slices.IndexFunc[[]ashlar/api.Named,ashlar/api.Named] -/
def A138 (a0 a1 : D) (L : List Bx) (R : AE → List Bx → Prop) : Prop :=
alenL a0 fun t7 =>
alp [.i 0] L fun v2 w1 k2 =>
aar .lss (aix v2 0) t7 fun t9 =>
acnd t9 (aidxS 5 a0 (aix v2 0) fun t14 =>
aldN 5 t14 w1 fun t15 =>
acallF pr false a1 [t15] w1 (apn R) fun t16 w2 =>
acnd t16 (R (.ret (aix v2 0)) w2) (aar .add (aix v2 0) (.i 1) fun t18 =>
k2 [t18] w2)) (R (.ret (.i (-1))) w1)
theorem A138_eq : A138 = fun a0 a1 L R => aex pr ⟨[(5, [8])], []⟩ (bodyOf fn138) (aenv0 [a0, a1]) L (apost pr fn138.results.toList R) := by kernel_rfl
theorem s138 {a0 a1 : D} {L : List Bx} {R : AE → List Bx → Prop} (h : A138 a0 a1 L R) : ASpec pr 138 [a0, a1] L R :=
  aspec_of (A := ⟨[(5, [8])], []⟩) (fn := fn138) 2 mixed Tryz.func138 (by kernel_rfl) (by decide) rfl (by kernel_rfl) (by rw [A138_eq] at h; exact h)
noncomputable abbrev fn96 : Func := Tryz.f96
/- ashlar/eval.find -/
def A96 (a0 a1 a2 : D) (L : List Bx) (R : AE → List Bx → Prop) : Prop :=
abxv a0 L fun t3 w1 =>
abxv a1 w1 fun t4 w2 =>
abxv a2 w2 fun t5 w3 =>
afld 1 t3 fun t7 =>
ald1 t7 w3 fun t8 =>
acallW pr 138 [t8, .fn 139 [] [t4, t5]] w3 (apn R) fun t10 w4 =>
R (.ret t10) w4
theorem A96_eq : A96 = fun a0 a1 a2 L R => aex pr ⟨[], []⟩ (bodyOf fn96) (aenv0 [a0, a1, a2]) L (apost pr fn96.results.toList R) := by kernel_rfl
theorem s96 {a0 a1 a2 : D} {L : List Bx} {R : AE → List Bx → Prop} (h : A96 a0 a1 a2 L R) : ASpec pr 96 [a0, a1, a2] L R :=
  aspec_of (A := ⟨[], []⟩) (fn := fn96) 3 mixed Tryz.func96 (by kernel_rfl) (by decide) rfl (by kernel_rfl) (by rw [A96_eq] at h; exact h)
noncomputable abbrev fn95 : Func := Tryz.f95
/- ashlar/eval.is -/
def A95 (a0 a1 : D) (L : List Bx) (R : AE → List Bx → Prop) : Prop :=
abxv a0 L fun t2 w1 =>
ajn (fun v4 w2 =>
ajn (fun v6 w3 =>
afld 0 t2 fun t24 =>
ald1 t24 w3 fun t25 =>
aar .eql t25 (.i 1) fun t27 =>
acnd t27 (R (.ret (.b true)) w3) (aar .eql t25 (.i 3) fun t29 =>
acnd t29 (afld 1 t2 fun t30 =>
ald1 t30 w3 fun t31 =>
aar .geq t31 (.i 0) fun t32 =>
acnd t32 (afld 1 t2 fun t34 =>
ald1 t34 w3 fun t35 =>
aar .lss t35 a1 fun t37 =>
R (.ret t37) w3) (R (.ret (.b false)) w3)) (aar .eql t25 (.i 2) fun t40 =>
acnd t40 (acnd t40 (afld 1 t2 fun t42 =>
ald1 t42 w3 fun t43 =>
aar .eql t43 (.i 0) fun t44 =>
R (.ret t44) w3) (R (.ret (.b false)) w3)) (aar .eql t25 (.i 4) fun t41 =>
acnd t41 (afld 1 t2 fun t42 =>
ald1 t42 w3 fun t43 =>
aar .eql t43 (.i 0) fun t44 =>
R (.ret t44) w3) (R (.ret (.b false)) w3))))) fun j6 =>
afld 3 t2 fun t10 =>
ald1 t10 w2 fun t11 =>
alenL t11 fun t12 =>
aar .neq t12 (aix v4 0) fun t14 =>
acnd t14 (R (.ret (.b false)) w2) (afld 2 t2 fun t16 =>
ald1 t16 w2 fun t17 =>
ajn (fun y22 w4 =>
acnd (aix y22 0) (R (.ret (.b false)) w4) (j6 [] w4)) fun j22 =>
acnd t17 (afld 0 t2 fun t19 =>
ald1 t19 w2 fun t20 =>
aar .neq t20 (.i 4) fun t21 =>
j22 [t21] w2) (j22 [.b false] w2))) fun j4 =>
afld 0 t2 fun t6 =>
ald1 t6 w1 fun t7 =>
aar .eql t7 (.i 2) fun t8 =>
acnd t8 (j4 [a1] w1) (j4 [.i 0] w1)
theorem A95_eq : A95 = fun a0 a1 L R => aex pr ⟨[(8, [5]), (12, []), (3000022, [])], []⟩ (bodyOf fn95) (aenv0 [a0, a1]) L (apost pr fn95.results.toList R) := by kernel_rfl
theorem s95 {a0 a1 : D} {L : List Bx} {R : AE → List Bx → Prop} (h : A95 a0 a1 L R) : ASpec pr 95 [a0, a1] L R :=
  aspec_of (A := ⟨[(8, [5]), (12, []), (3000022, [])], []⟩) (fn := fn95) 2 mixed Tryz.func95 (by kernel_rfl) (by decide) rfl (by kernel_rfl) (by rw [A95_eq] at h; exact h)
noncomputable abbrev fn45 : Func := Tryz.f45
/- ashlar/eval.Right -/
def A45 (a0 : D) (L : List Bx) (R : AE → List Bx → Prop) : Prop :=
abxv a0 L fun t1 w1 =>
ajn (fun v3 w2 =>
amkM w2 fun t21 w3 =>
afld 1 t1 fun t22 =>
ald1 t22 w3 fun t23 =>
alenL t23 fun t24 =>
alp [.i 0] w3 fun v5 w4 k5 =>
aar .lss (aix v5 0) t24 fun t26 =>
acnd t26 (aidxS 5 t23 (aix v5 0) fun t27 =>
aldN 5 t27 w4 fun t28 =>
abx [.s ⟨#[]⟩, .i 0, .i 0, .b false, .nil] w4 fun t5 w5 =>
ast 5 t5 t28 w5 fun w6 =>
afld 0 t5 fun t29 =>
ald1 t29 w6 fun t30 =>
afld 1 t5 fun t31 =>
afld 0 t31 fun t32 =>
ald1 t32 w6 fun t33 =>
abld [.s ⟨#[]⟩, .i 0] [(0, 1, t30), (1, 1, t33)] fun t34 =>
abx [.s ⟨#[]⟩, .i 0] w6 fun t6 w7 =>
ast 2 t6 t34 w7 fun w8 =>
afld 0 t5 fun t35 =>
ald1 t35 w8 fun t36 =>
acallW pr 94 [t36] w8 (apn R) fun t37 w9 =>
anotb t37 fun t38 =>
acnd t38 (R (.ret (.b false)) w9) (afld 1 t5 fun t40 =>
aldN 4 t40 w9 fun t41 =>
afld 0 t1 fun t42 =>
ald1 t42 w9 fun t43 =>
acallW pr 95 [t41, t43] w9 (apn R) fun t44 w10 =>
anotb t44 fun t45 =>
acnd t45 (R (.ret (.b false)) w10) (aldN 2 t6 w10 fun t49 =>
alkM pr 140 false (.b false) t21 t49 w10 fun t50 =>
acnd t50 (R (.ret (.b false)) w10) (aldN 2 t6 w10 fun t53 =>
aupM pr 140 t21 t53 (.b true) w10 fun w11 =>
aar .add (aix v5 0) (.i 1) fun t54 =>
k5 [t54] w11)))) (R (.ret (.b true)) w4)) fun j3 =>
afld 0 t1 fun t7 =>
ald1 t7 w1 fun t8 =>
aar .lss t8 (.i 1) fun t9 =>
acnd t9 (R (.ret (.b false)) w1) (afld 0 t1 fun t11 =>
ald1 t11 w1 fun t12 =>
aar .gtr t12 (.i 64) fun t13 =>
acnd t13 (R (.ret (.b false)) w1) (afld 1 t1 fun t16 =>
ald1 t16 w1 fun t17 =>
alenL t17 fun t18 =>
aar .gtr t18 (.i 64) fun t19 =>
acnd t19 (R (.ret (.b false)) w1) (j3 [] w1)))
theorem A45_eq : A45 = fun a0 L R => aex pr ⟨[(6, []), (11, [25])], []⟩ (bodyOf fn45) (aenv0 [a0]) L (apost pr fn45.results.toList R) := by kernel_rfl
theorem s45 {a0 : D} {L : List Bx} {R : AE → List Bx → Prop} (h : A45 a0 L R) : ASpec pr 45 [a0] L R :=
  aspec_of (A := ⟨[(6, []), (11, [25])], []⟩) (fn := fn45) 1 mixed Tryz.func45 (by kernel_rfl) (by decide) rfl (by kernel_rfl) (by rw [A45_eq] at h; exact h)
noncomputable abbrev fn46 : Func := Tryz.f46
/- ashlar/eval.Get -/
def A46 (a0 a1 a2 : D) (L : List Bx) (R : AE → List Bx → Prop) : Prop :=
abxv a0 L fun t3 w1 =>
abx [.i 0, .i 0, .b false, .nil] w1 fun t6 w2 =>
aldN 2 t3 w2 fun t9 =>
acallW pr 96 [t9, a1, a2] w2 (apn R) fun t12 w3 =>
aar .lss t12 (.i 0) fun t14 =>
acnd t14 (abld [.i 0, .i 0, .b false, .nil] [] fun t15 =>
ast 4 t6 t15 w3 fun w4 =>
aldN 4 t6 w4 fun r0 =>
R (.ret (.tuple [r0, .b false])) w4) (afld 1 t3 fun t16 =>
ald1 t16 w3 fun t17 =>
aidxS 5 t17 t12 fun t19 =>
afld 1 t19 fun t20 =>
aldN 4 t20 w3 fun t21 =>
acallW pr 97 [t21] w3 (apn R) fun t22 w5 =>
ast 4 t6 t22 w5 fun w6 =>
aldN 4 t6 w6 fun r0 =>
R (.ret (.tuple [r0, .b true])) w6)
theorem A46_eq : A46 = fun a0 a1 a2 L R => aex pr ⟨[], []⟩ (bodyOf fn46) (aenv0 [a0, a1, a2]) L (apost pr fn46.results.toList R) := by kernel_rfl
theorem s46 {a0 a1 a2 : D} {L : List Bx} {R : AE → List Bx → Prop} (h : A46 a0 a1 a2 L R) : ASpec pr 46 [a0, a1, a2] L R :=
  aspec_of (A := ⟨[], []⟩) (fn := fn46) 3 mixed Tryz.func46 (by kernel_rfl) (by decide) rfl (by kernel_rfl) (by rw [A46_eq] at h; exact h)
noncomputable abbrev fn63 : Func := Tryz.f63
/- ashlar/ashlarref04.Same -/
def A63 (a0 a1 : D) (L : List Bx) (R : AE → List Bx → Prop) : Prop :=
abxv a0 L fun t2 w1 =>
abxv a1 w1 fun t3 w2 =>
ajn (fun v3 w3 =>
alp [.i 0] w3 fun v4 w4 k4 =>
afld 3 t2 fun t35 =>
ald1 t35 w4 fun t36 =>
alenL t36 fun t37 =>
aar .lss (aix v4 0) t37 fun t38 =>
acnd t38 (afld 3 t2 fun t41 =>
ald1 t41 w4 fun t42 =>
aidxS 1 t42 (aix v4 0) fun t44 =>
ald1 t44 w4 fun t45 =>
afld 3 t3 fun t46 =>
ald1 t46 w4 fun t47 =>
aidxS 1 t47 (aix v4 0) fun t49 =>
ald1 t49 w4 fun t50 =>
aarB .neq t45 t50 fun t51 =>
acnd t51 (R (.ret (.b false)) w4) (aar .add (aix v4 0) (.i 1) fun t40 =>
k4 [t40] w4)) (R (.ret (.b true)) w4)) fun j3 =>
afld 0 t2 fun t6 =>
ald1 t6 w2 fun t7 =>
afld 0 t3 fun t8 =>
ald1 t8 w2 fun t9 =>
aar .neq t7 t9 fun t10 =>
acnd t10 (R (.ret (.b false)) w2) (afld 1 t2 fun t12 =>
ald1 t12 w2 fun t13 =>
afld 1 t3 fun t14 =>
ald1 t14 w2 fun t15 =>
aar .neq t13 t15 fun t16 =>
acnd t16 (R (.ret (.b false)) w2) (afld 2 t2 fun t19 =>
ald1 t19 w2 fun t20 =>
afld 2 t3 fun t21 =>
ald1 t21 w2 fun t22 =>
aarB .neq t20 t22 fun t23 =>
acnd t23 (R (.ret (.b false)) w2) (afld 3 t2 fun t26 =>
ald1 t26 w2 fun t27 =>
alenL t27 fun t28 =>
afld 3 t3 fun t29 =>
ald1 t29 w2 fun t30 =>
alenL t30 fun t31 =>
aar .neq t28 t31 fun t32 =>
acnd t32 (R (.ret (.b false)) w2) (j3 [] w2))))
theorem A63_eq : A63 = fun a0 a1 L R => aex pr ⟨[(6, []), (9, [5])], [(6, [(0, 0), (1, 0), (2, 0), (3, 0), (4, 0), (5, 0), (6, 0), (7, 0), (8, 0), (9, 0), (10, 0)])]⟩ (bodyOf fn63) (aenv0 [a0, a1]) L (apost pr fn63.results.toList R) := by kernel_rfl
theorem s63 {a0 a1 : D} {L : List Bx} {R : AE → List Bx → Prop} (h : A63 a0 a1 L R) : ASpec pr 63 [a0, a1] L R :=
  aspec_of (A := ⟨[(6, []), (9, [5])], [(6, [(0, 0), (1, 0), (2, 0), (3, 0), (4, 0), (5, 0), (6, 0), (7, 0), (8, 0), (9, 0), (10, 0)])]⟩) (fn := fn63) 2 mixed Tryz.func63 (by kernel_rfl) (by decide) rfl (by kernel_rfl) (by rw [A63_eq] at h; exact h)
noncomputable abbrev fn64 : Func := Tryz.f64
/- ashlar/ashlarref04.Ints -/
def A64 (a0 a1 a2 : D) (L : List Bx) (R : AE → List Bx → Prop) : Prop :=
aar .eql a0 (.i 4) fun t13 =>
acnd t13 (aar .add a1 a2 fun t16 =>
aar .lss a1 (.i 0) fun t19 =>
aar .lss a2 (.i 0) fun t21 =>
aarB .neq t19 t21 fun t22 =>
acnd t22 (R (.ret (.tuple [t16, .b true])) L) (aar .lss t16 (.i 0) fun t25 =>
aar .lss a1 (.i 0) fun t27 =>
aarB .eql t25 t27 fun t28 =>
R (.ret (.tuple [t16, t28])) L)) (aar .eql a0 (.i 5) fun t31 =>
acnd t31 (aar .sub a1 a2 fun t34 =>
aar .lss a1 (.i 0) fun t37 =>
aar .lss a2 (.i 0) fun t39 =>
aarB .eql t37 t39 fun t40 =>
acnd t40 (R (.ret (.tuple [t34, .b true])) L) (aar .lss t34 (.i 0) fun t43 =>
aar .lss a1 (.i 0) fun t45 =>
aarB .eql t43 t45 fun t46 =>
R (.ret (.tuple [t34, t46])) L)) (ajn (fun v10 w1 =>
aar .mul a1 a2 fun t56 =>
aar .quo t56 a2 fun t60 =>
aar .eql t60 a1 fun t62 =>
acnd t62 (aar .eql a1 (.i (-1)) fun t65 =>
ajn (fun y69 w2 =>
anotb (aix y69 0) fun t70 =>
acnd t70 (aar .eql a2 (.i (-1)) fun t74 =>
ajn (fun y78 w3 =>
anotb (aix y78 0) fun t79 =>
R (.ret (.tuple [t56, t79])) w3) fun j78 =>
acnd t74 (aar .eql a1 (.i (-9223372036854775808)) fun t77 =>
j78 [t77] w2) (j78 [.b false] w2)) (R (.ret (.tuple [t56, .b false])) w2)) fun j69 =>
acnd t65 (aar .eql a2 (.i (-9223372036854775808)) fun t68 =>
j69 [t68] w1) (j69 [.b false] w1)) (R (.ret (.tuple [t56, .b false])) w1)) fun j10 =>
aar .eql a1 (.i 0) fun t49 =>
acnd t49 (R (.ret (.tuple [.i 0, .b true])) L) (aar .eql a2 (.i 0) fun t52 =>
acnd t52 (R (.ret (.tuple [.i 0, .b true])) L) (j10 [] L))))
theorem A64_eq : A64 = fun a0 a1 a2 L R => aex pr ⟨[(20, []), (3000069, []), (3000078, [])], []⟩ (bodyOf fn64) (aenv0 [a0, a1, a2]) L (apost pr fn64.results.toList R) := by kernel_rfl
theorem s64 {a0 a1 a2 : D} {L : List Bx} {R : AE → List Bx → Prop} (h : A64 a0 a1 a2 L R) : ASpec pr 64 [a0, a1, a2] L R :=
  aspec_of (A := ⟨[(20, []), (3000069, []), (3000078, [])], []⟩) (fn := fn64) 3 mixed Tryz.func64 (by kernel_rfl) (by decide) rfl (by kernel_rfl) (by rw [A64_eq] at h; exact h)
end Go.Proofs.YtokpeggkofjclaaGreatDoor
