/- What must hold ahead of a call, function by function: printed by a program. -/
import Derived.Test.YtlonmopppgadgaaDoorW1
import Derived.KernelRfl
set_option maxRecDepth 100000
set_option linter.unusedVariables false
namespace Go.Proofs.YtlonmopppgadgaaDoor
open Go Go.V
noncomputable abbrev fn157 : Func := Tryd.f157
/- math/bits.Mul64 -/
def A157 (a0 a1 : D) (L : List Bx) (R : AE → List Bx → Prop) : Prop :=
aar .and a0 (.val (.int .u64 4294967295)) fun t15 =>
aar .shr a0 (.val (.int .u64 32)) fun t17 =>
aar .and a1 (.val (.int .u64 4294967295)) fun t19 =>
aar .shr a1 (.val (.int .u64 32)) fun t21 =>
aar .mul t15 t19 fun t24 =>
aar .mul t17 t19 fun t27 =>
aar .shr t24 (.val (.int .u64 32)) fun t29 =>
aar .add t27 t29 fun t30 =>
aar .and t30 (.val (.int .u64 4294967295)) fun t32 =>
aar .shr t30 (.val (.int .u64 32)) fun t34 =>
aar .mul t15 t21 fun t38 =>
aar .add t32 t38 fun t39 =>
aar .mul t17 t21 fun t42 =>
aar .add t42 t34 fun t44 =>
aar .shr t39 (.val (.int .u64 32)) fun t46 =>
aar .add t44 t46 fun t47 =>
aar .mul a0 a1 fun t50 =>
R (.ret (.tuple [t47, t50])) L
theorem A157_eq : A157 = fun a0 a1 L R => aex pr ⟨[], []⟩ (bodyOf fn157) (aenv0 [a0, a1]) L (apost pr fn157.results.toList R) := by kernel_rfl
theorem s157 {a0 a1 : D} {L : List Bx} {R : AE → List Bx → Prop} (h : A157 a0 a1 L R) : ASpec pr 157 [a0, a1] L R :=
  aspec_of (A := ⟨[], []⟩) (fn := fn157) 2 mixed Tryd.func157 (by kernel_rfl) (by decide) rfl (by kernel_rfl) (by rw [A157_eq] at h; exact h)
noncomputable abbrev fn158 : Func := Tryd.f158
/- ashlar/num.size -/
def A158 (a0 : D) (L : List Bx) (R : AE → List Bx → Prop) : Prop :=
aar .lss a0 (.i 0) fun t4 =>
acnd t4 (acvI .u64 a0 fun t6 =>
aneg t6 fun t7 =>
R (.ret t7) L) (acvI .u64 a0 fun t9 =>
R (.ret t9) L)
theorem A158_eq : A158 = fun a0 L R => aex pr ⟨[], []⟩ (bodyOf fn158) (aenv0 [a0]) L (apost pr fn158.results.toList R) := by kernel_rfl
theorem s158 {a0 : D} {L : List Bx} {R : AE → List Bx → Prop} (h : A158 a0 L R) : ASpec pr 158 [a0] L R :=
  aspec_of (A := ⟨[], []⟩) (fn := fn158) 1 mixed Tryd.func158 (by kernel_rfl) (by decide) rfl (by kernel_rfl) (by rw [A158_eq] at h; exact h)
noncomputable abbrev fn160 : Func := Tryd.f160
/- (ashlar/num.wide).less -/
def A160 (a0 a1 : D) (L : List Bx) (R : AE → List Bx → Prop) : Prop :=
abxv a0 L fun t2 w1 =>
abxv a1 w1 fun t3 w2 =>
afld 1 t2 fun t5 =>
ald1 t5 w2 fun t6 =>
afld 1 t3 fun t7 =>
ald1 t7 w2 fun t8 =>
aar .lss t6 t8 fun t9 =>
acnd t9 (R (.ret (.b true)) w2) (afld 1 t2 fun t11 =>
ald1 t11 w2 fun t12 =>
afld 1 t3 fun t13 =>
ald1 t13 w2 fun t14 =>
aar .eql t12 t14 fun t15 =>
ajn (fun y22 w3 =>
R (.ret (aix y22 0)) w3) fun j22 =>
acnd t15 (afld 2 t2 fun t17 =>
ald1 t17 w2 fun t18 =>
afld 2 t3 fun t19 =>
ald1 t19 w2 fun t20 =>
aar .lss t18 t20 fun t21 =>
j22 [t21] w2) (j22 [.b false] w2))
theorem A160_eq : A160 = fun a0 a1 L R => aex pr ⟨[(3000022, [])], []⟩ (bodyOf fn160) (aenv0 [a0, a1]) L (apost pr fn160.results.toList R) := by kernel_rfl
theorem s160 {a0 a1 : D} {L : List Bx} {R : AE → List Bx → Prop} (h : A160 a0 a1 L R) : ASpec pr 160 [a0, a1] L R :=
  aspec_of (A := ⟨[(3000022, [])], []⟩) (fn := fn160) 2 mixed Tryd.func160 (by kernel_rfl) (by decide) rfl (by kernel_rfl) (by rw [A160_eq] at h; exact h)
noncomputable abbrev fn143 : Func := Tryd.f143
/- ashlar/num.product -/
def A143 (a0 a1 : D) (L : List Bx) (R : AE → List Bx → Prop) : Prop :=
abx [.b false, .val (.int .u64 0), .val (.int .u64 0)] L fun t4 w1 =>
acallW pr 158 [a0] w1 (apn R) fun t9 w2 =>
acallW pr 158 [a1] w2 (apn R) fun t11 w3 =>
acallW pr 157 [t9, t11] w3 (apn R) fun t12 w4 =>
aext 0 t12 fun t13 =>
aext 1 t12 fun t14 =>
aar .lss a0 (.i 0) fun t16 =>
aar .lss a1 (.i 0) fun t18 =>
aarB .neq t16 t18 fun t19 =>
abld [.b false, .val (.int .u64 0), .val (.int .u64 0)] [(0, 1, t19), (1, 1, t13), (2, 1, t14)] fun t22 =>
ast 3 t4 t22 w4 fun w5 =>
aldN 3 t4 w5 fun r0 =>
R (.ret r0) w5
theorem A143_eq : A143 = fun a0 a1 L R => aex pr ⟨[], []⟩ (bodyOf fn143) (aenv0 [a0, a1]) L (apost pr fn143.results.toList R) := by kernel_rfl
theorem s143 {a0 a1 : D} {L : List Bx} {R : AE → List Bx → Prop} (h : A143 a0 a1 L R) : ASpec pr 143 [a0, a1] L R :=
  aspec_of (A := ⟨[], []⟩) (fn := fn143) 2 mixed Tryd.func143 (by kernel_rfl) (by decide) rfl (by kernel_rfl) (by rw [A143_eq] at h; exact h)
noncomputable abbrev fn144 : Func := Tryd.f144
/- ashlar/num.of -/
def A144 (a0 : D) (L : List Bx) (R : AE → List Bx → Prop) : Prop :=
abx [.b false, .val (.int .u64 0), .val (.int .u64 0)] L fun t2 w1 =>
aar .lss a0 (.i 0) fun t4 =>
acallW pr 158 [a0] w1 (apn R) fun t6 w2 =>
abld [.b false, .val (.int .u64 0), .val (.int .u64 0)] [(0, 1, t4), (1, 1, .val (.int .u64 0)), (2, 1, t6)] fun t7 =>
ast 3 t2 t7 w2 fun w3 =>
aldN 3 t2 w3 fun r0 =>
R (.ret r0) w3
theorem A144_eq : A144 = fun a0 L R => aex pr ⟨[], []⟩ (bodyOf fn144) (aenv0 [a0]) L (apost pr fn144.results.toList R) := by kernel_rfl
theorem s144 {a0 : D} {L : List Bx} {R : AE → List Bx → Prop} (h : A144 a0 L R) : ASpec pr 144 [a0] L R :=
  aspec_of (A := ⟨[], []⟩) (fn := fn144) 1 mixed Tryd.func144 (by kernel_rfl) (by decide) rfl (by kernel_rfl) (by rw [A144_eq] at h; exact h)
noncomputable abbrev fn146 : Func := Tryd.f146
/- (ashlar/num.wide).neg -/
def A146 (a0 : D) (L : List Bx) (R : AE → List Bx → Prop) : Prop :=
abxv a0 L fun t1 w1 =>
abx [.b false, .val (.int .u64 0), .val (.int .u64 0)] w1 fun t2 w2 =>
afld 0 t1 fun t3 =>
ald1 t3 w2 fun t4 =>
anotb t4 fun t5 =>
afld 1 t1 fun t6 =>
ald1 t6 w2 fun t7 =>
afld 2 t1 fun t8 =>
ald1 t8 w2 fun t9 =>
abld [.b false, .val (.int .u64 0), .val (.int .u64 0)] [(0, 1, t5), (1, 1, t7), (2, 1, t9)] fun t10 =>
ast 3 t2 t10 w2 fun w3 =>
aldN 3 t2 w3 fun r0 =>
R (.ret r0) w3
theorem A146_eq : A146 = fun a0 L R => aex pr ⟨[], []⟩ (bodyOf fn146) (aenv0 [a0]) L (apost pr fn146.results.toList R) := by kernel_rfl
theorem s146 {a0 : D} {L : List Bx} {R : AE → List Bx → Prop} (h : A146 a0 L R) : ASpec pr 146 [a0] L R :=
  aspec_of (A := ⟨[], []⟩) (fn := fn146) 1 mixed Tryd.func146 (by kernel_rfl) (by decide) rfl (by kernel_rfl) (by rw [A146_eq] at h; exact h)
noncomputable abbrev fn145 : Func := Tryd.f145
/- (ashlar/num.wide).plus -/
def A145 (a0 a1 : D) (L : List Bx) (R : AE → List Bx → Prop) : Prop :=
abxv a0 L fun t2 w1 =>
abxv a1 w1 fun t3 w2 =>
abx [.b false, .val (.int .u64 0), .val (.int .u64 0)] w2 fun t4 w3 =>
afld 0 t2 fun t13 =>
ald1 t13 w3 fun t14 =>
afld 0 t3 fun t15 =>
ald1 t15 w3 fun t16 =>
aarB .eql t14 t16 fun t17 =>
acnd t17 (afld 2 t2 fun t19 =>
ald1 t19 w3 fun t20 =>
afld 2 t3 fun t21 =>
ald1 t21 w3 fun t22 =>
acallW pr 159 [t20, t22, .val (.int .u64 0)] w3 (apn R) fun t23 w4 =>
aext 0 t23 fun t24 =>
aext 1 t23 fun t25 =>
afld 1 t2 fun t27 =>
ald1 t27 w4 fun t28 =>
afld 1 t3 fun t29 =>
ald1 t29 w4 fun t30 =>
acallW pr 159 [t28, t30, t25] w4 (apn R) fun t32 w5 =>
aext 0 t32 fun t33 =>
aext 1 t32 fun t34 =>
afld 0 t2 fun t35 =>
ald1 t35 w5 fun t36 =>
abld [.b false, .val (.int .u64 0), .val (.int .u64 0)] [(0, 1, t36), (1, 1, t33), (2, 1, t24)] fun t39 =>
ast 3 t4 t39 w5 fun w6 =>
aldN 3 t4 w6 fun r0 =>
R (.ret r0) w6) (ajn (fun v7 w7 =>
afld 2 t2 fun t46 =>
ald1 t46 w7 fun t47 =>
afld 2 t3 fun t48 =>
ald1 t48 w7 fun t49 =>
acallW pr 161 [t47, t49, .val (.int .u64 0)] w7 (apn R) fun t50 w8 =>
aext 0 t50 fun t51 =>
aext 1 t50 fun t52 =>
afld 1 t2 fun t54 =>
ald1 t54 w8 fun t55 =>
afld 1 t3 fun t56 =>
ald1 t56 w8 fun t57 =>
acallW pr 161 [t55, t57, t52] w8 (apn R) fun t59 w9 =>
aext 0 t59 fun t60 =>
aext 1 t59 fun t61 =>
afld 0 t2 fun t62 =>
ald1 t62 w9 fun t63 =>
abld [.b false, .val (.int .u64 0), .val (.int .u64 0)] [(0, 1, t63), (1, 1, t60), (2, 1, t51)] fun t66 =>
ast 3 t4 t66 w9 fun w10 =>
aldN 3 t4 w10 fun r0 =>
R (.ret r0) w10) fun j7 =>
aldN 3 t2 w3 fun t40 =>
aldN 3 t3 w3 fun t41 =>
acallW pr 160 [t40, t41] w3 (apn R) fun t42 w11 =>
acnd t42 (aldN 3 t3 w11 fun t43 =>
aldN 3 t2 w11 fun t44 =>
ast 3 t2 t43 w11 fun w12 =>
ast 3 t3 t44 w12 fun w13 =>
j7 [] w13) (j7 [] w11))
theorem A145_eq : A145 = fun a0 a1 L R => aex pr ⟨[(14, [])], []⟩ (bodyOf fn145) (aenv0 [a0, a1]) L (apost pr fn145.results.toList R) := by kernel_rfl
theorem s145 {a0 a1 : D} {L : List Bx} {R : AE → List Bx → Prop} (h : A145 a0 a1 L R) : ASpec pr 145 [a0, a1] L R :=
  aspec_of (A := ⟨[(14, [])], []⟩) (fn := fn145) 2 mixed Tryd.func145 (by kernel_rfl) (by decide) rfl (by kernel_rfl) (by rw [A145_eq] at h; exact h)
noncomputable abbrev fn156 : Func := Tryd.f156
/- (ashlar/num.wide).int64 -/
def A156 (a0 : D) (L : List Bx) (R : AE → List Bx → Prop) : Prop :=
abxv a0 L fun t1 w1 =>
ajn (fun v2 w2 =>
acnd (aix v2 0) (abld [] [] fun t22 =>
apn R (.ifc 182 t22) w2) (afld 0 t1 fun t25 =>
ald1 t25 w2 fun t26 =>
acnd t26 (afld 2 t1 fun t27 =>
ald1 t27 w2 fun t28 =>
aneg t28 fun t29 =>
acvI .i64 t29 fun t30 =>
R (.ret t30) w2) (afld 2 t1 fun t31 =>
ald1 t31 w2 fun t32 =>
acvI .i64 t32 fun t33 =>
R (.ret t33) w2))) fun j2 =>
afld 1 t1 fun t4 =>
ald1 t4 w1 fun t5 =>
aar .gtr t5 (.val (.int .u64 0)) fun t6 =>
acnd t6 (j2 [.b true] w1) (afld 2 t1 fun t8 =>
ald1 t8 w1 fun t9 =>
aar .gtr t9 (.val (.int .u64 9223372036854775808)) fun t10 =>
acnd t10 (j2 [.b true] w1) (afld 2 t1 fun t13 =>
ald1 t13 w1 fun t14 =>
aar .eql t14 (.val (.int .u64 9223372036854775808)) fun t15 =>
ajn (fun y20 w3 =>
j2 [aix y20 0] w3) fun j20 =>
acnd t15 (afld 0 t1 fun t17 =>
ald1 t17 w1 fun t18 =>
anotb t18 fun t19 =>
j20 [t19] w1) (j20 [.b false] w1)))
theorem A156_eq : A156 = fun a0 L R => aex pr ⟨[(4, [3]), (3000020, [])], []⟩ (bodyOf fn156) (aenv0 [a0]) L (apost pr fn156.results.toList R) := by kernel_rfl
theorem s156 {a0 : D} {L : List Bx} {R : AE → List Bx → Prop} (h : A156 a0 L R) : ASpec pr 156 [a0] L R :=
  aspec_of (A := ⟨[(4, [3]), (3000020, [])], []⟩) (fn := fn156) 1 mixed Tryd.func156 (by kernel_rfl) (by decide) rfl (by kernel_rfl) (by rw [A156_eq] at h; exact h)
noncomputable abbrev fn166 : Func := Tryd.f166
/- ashlar/num.fits[int64]$1 -/
def A166 (a0 a1 : D) (m : Option D) (L : List Bx) (R : Option D → List Bx → Prop) : Prop :=
aeqI .eql ((recD m)) (.val (.nilIface)) fun t8 =>
acnd t8 (R none L) (atas 182 (.agg []) ((recD m)) true fun t9 =>
aext 1 t9 fun t10 =>
aext 0 t9 fun t11 =>
acnd t10 (abx [] L fun t3 w1 =>
ast0 t3 t11 w1 fun w2 =>
ast 1 a0 (.i 0) w2 fun w3 =>
ast 1 a1 (.b false) w3 fun w4 =>
R none w4) (apnF ((recD m))))
theorem A166_eq : A166 = fun a0 a1 m L R => aexR pr ⟨[], []⟩ R m (bodyOf fn166) (aenv0 [a0, a1]) L := by kernel_rfl
theorem s166 {a0 a1 : D} {m : Option D} {L : List Bx} {R : Option D → List Bx → Prop} (h : A166 a0 a1 m L R) : ADef pr 166 [a0, a1] m L R :=
  adef_of (A := ⟨[], []⟩) (fn := fn166) 2 mixed Tryd.func166 (by kernel_rfl) (by decide) rfl rfl (by kernel_rfl) (by rw [A166_eq] at h; exact h)
noncomputable abbrev fn155 : Func := Tryd.f155
def K155 (t2 t3 : D) (R : AE → List Bx → Prop) (m : Option D) (L : List Bx) : Prop :=
ADef pr 166 [t2, t3] m L fun m w => aend R m w (ald1 t2 w fun r0 =>
ald1 t3 w fun r1 =>
R (.ret (.tuple [r0, r1])) w)
/- ashlar/num.fits[int64] -/
def A155 (a0 : D) (L : List Bx) (R : AE → List Bx → Prop) : Prop :=
abx [.i 0] L fun t2 w1 =>
abx [.b false] w1 fun t3 w2 =>
acallF pr false a0 [] w2 (fun c w => K155 t2 t3 R (some c) w) fun t6 w3 =>
ast 1 t2 t6 w3 fun w4 =>
ast 1 t3 (.b true) w4 fun w5 =>
K155 t2 t3 R none w5
theorem A155_eq : A155 = fun a0 L R => aexD pr ⟨[], []⟩ fn155.results.toList R (bodyOf fn155) (aenv0 [a0]) L := by kernel_rfl
theorem s155 {a0 : D} {L : List Bx} {R : AE → List Bx → Prop} (h : A155 a0 L R) : ASpec pr 155 [a0] L R :=
  aspec_ofD (A := ⟨[], []⟩) (fn := fn155) 1 mixed Tryd.func155 (by kernel_rfl) (by decide) rfl (by kernel_rfl) (by rw [A155_eq] at h; exact h)
noncomputable abbrev fn142 : Func := Tryd.f142
/- ashlar/num.whole -/
def A142 (a0 : D) (L : List Bx) (R : AE → List Bx → Prop) : Prop :=
abxv a0 L fun t1 w1 =>
aldN 3 t1 w1 fun t4 =>
acallW pr 155 [.fn 156 [t4] []] w1 (apn R) fun t6 w2 =>
aext 0 t6 fun t7 =>
aext 1 t6 fun t8 =>
R (.ret (.tuple [t7, t8])) w2
theorem A142_eq : A142 = fun a0 L R => aex pr ⟨[], []⟩ (bodyOf fn142) (aenv0 [a0]) L (apost pr fn142.results.toList R) := by kernel_rfl
theorem s142 {a0 : D} {L : List Bx} {R : AE → List Bx → Prop} (h : A142 a0 L R) : ASpec pr 142 [a0] L R :=
  aspec_of (A := ⟨[], []⟩) (fn := fn142) 1 mixed Tryd.func142 (by kernel_rfl) (by decide) rfl (by kernel_rfl) (by rw [A142_eq] at h; exact h)
noncomputable abbrev fn121 : Func := Tryd.f121
/- ashlar/num.Mul -/
def A121 (a0 a1 : D) (L : List Bx) (R : AE → List Bx → Prop) : Prop :=
acallW pr 143 [a0, a1] L (apn R) fun t8 w1 =>
acallW pr 142 [t8] w1 (apn R) fun t9 w2 =>
aext 0 t9 fun t10 =>
aext 1 t9 fun t11 =>
R (.ret (.tuple [t10, t11])) w2
theorem A121_eq : A121 = fun a0 a1 L R => aex pr ⟨[], []⟩ (bodyOf fn121) (aenv0 [a0, a1]) L (apost pr fn121.results.toList R) := by kernel_rfl
theorem s121 {a0 a1 : D} {L : List Bx} {R : AE → List Bx → Prop} (h : A121 a0 a1 L R) : ASpec pr 121 [a0, a1] L R :=
  aspec_of (A := ⟨[], []⟩) (fn := fn121) 2 mixed Tryd.func121 (by kernel_rfl) (by decide) rfl (by kernel_rfl) (by rw [A121_eq] at h; exact h)
noncomputable abbrev fn122 : Func := Tryd.f122
/- ashlar/num.Add -/
def A122 (a0 a1 : D) (L : List Bx) (R : AE → List Bx → Prop) : Prop :=
acallW pr 144 [a0] L (apn R) fun t7 w1 =>
acallW pr 144 [a1] w1 (apn R) fun t9 w2 =>
acallW pr 145 [t7, t9] w2 (apn R) fun t10 w3 =>
acallW pr 142 [t10] w3 (apn R) fun t11 w4 =>
aext 0 t11 fun t12 =>
aext 1 t11 fun t13 =>
R (.ret (.tuple [t12, t13])) w4
theorem A122_eq : A122 = fun a0 a1 L R => aex pr ⟨[], []⟩ (bodyOf fn122) (aenv0 [a0, a1]) L (apost pr fn122.results.toList R) := by kernel_rfl
theorem s122 {a0 a1 : D} {L : List Bx} {R : AE → List Bx → Prop} (h : A122 a0 a1 L R) : ASpec pr 122 [a0, a1] L R :=
  aspec_of (A := ⟨[], []⟩) (fn := fn122) 2 mixed Tryd.func122 (by kernel_rfl) (by decide) rfl (by kernel_rfl) (by rw [A122_eq] at h; exact h)
noncomputable abbrev fn123 : Func := Tryd.f123
/- ashlar/num.Sub -/
def A123 (a0 a1 : D) (L : List Bx) (R : AE → List Bx → Prop) : Prop :=
acallW pr 144 [a0] L (apn R) fun t7 w1 =>
acallW pr 144 [a1] w1 (apn R) fun t9 w2 =>
acallW pr 146 [t9] w2 (apn R) fun t10 w3 =>
acallW pr 145 [t7, t10] w3 (apn R) fun t11 w4 =>
acallW pr 142 [t11] w4 (apn R) fun t12 w5 =>
aext 0 t12 fun t13 =>
aext 1 t12 fun t14 =>
R (.ret (.tuple [t13, t14])) w5
theorem A123_eq : A123 = fun a0 a1 L R => aex pr ⟨[], []⟩ (bodyOf fn123) (aenv0 [a0, a1]) L (apost pr fn123.results.toList R) := by kernel_rfl
theorem s123 {a0 a1 : D} {L : List Bx} {R : AE → List Bx → Prop} (h : A123 a0 a1 L R) : ASpec pr 123 [a0, a1] L R :=
  aspec_of (A := ⟨[], []⟩) (fn := fn123) 2 mixed Tryd.func123 (by kernel_rfl) (by decide) rfl (by kernel_rfl) (by rw [A123_eq] at h; exact h)
noncomputable abbrev fn120 : Func := Tryd.f120
/- ashlar/eval.checked -/
def A120 (a0 a1 : D) (L : List Bx) (R : AE → List Bx → Prop) : Prop :=
anotb a1 fun t6 =>
acnd t6 (apn R (.ifc 79 (.i 5)) L) (R (.ret a0) L)
theorem A120_eq : A120 = fun a0 a1 L R => aex pr ⟨[], []⟩ (bodyOf fn120) (aenv0 [a0, a1]) L (apost pr fn120.results.toList R) := by kernel_rfl
theorem s120 {a0 a1 : D} {L : List Bx} {R : AE → List Bx → Prop} (h : A120 a0 a1 L R) : ASpec pr 120 [a0, a1] L R :=
  aspec_of (A := ⟨[], []⟩) (fn := fn120) 2 mixed Tryd.func120 (by kernel_rfl) (by decide) rfl (by kernel_rfl) (by rw [A120_eq] at h; exact h)
noncomputable abbrev fn118 : Func := Tryd.f118
/- ashlar/eval.count -/
def A118 (a0 : D) (L : List Bx) (R : AE → List Bx → Prop) : Prop :=
alenL a0 fun t7 =>
alp [.i 0, .i 0] L fun v3 w1 k3 =>
aar .lss (aix v3 1) t7 fun t9 =>
acnd t9 (aidxS 1 a0 (aix v3 1) fun t10 =>
ald1 t10 w1 fun t11 =>
acnd t11 (aar .add (aix v3 0) (.i 1) fun t14 =>
aar .add (aix v3 1) (.i 1) fun t15 =>
k3 [t14, t15] w1) (aar .add (aix v3 1) (.i 1) fun t15 =>
k3 [aix v3 0, t15] w1)) (R (.ret (aix v3 0)) w1)
theorem A118_eq : A118 = fun a0 L R => aex pr ⟨[(7, [3, 8])], []⟩ (bodyOf fn118) (aenv0 [a0]) L (apost pr fn118.results.toList R) := by kernel_rfl
theorem s118 {a0 : D} {L : List Bx} {R : AE → List Bx → Prop} (h : A118 a0 L R) : ASpec pr 118 [a0] L R :=
  aspec_of (A := ⟨[(7, [3, 8])], []⟩) (fn := fn118) 1 mixed Tryd.func118 (by kernel_rfl) (by decide) rfl (by kernel_rfl) (by rw [A118_eq] at h; exact h)
noncomputable abbrev fn125 : Func := Tryd.f125
/- ashlar/eval.within -/
def A125 (a0 a1 : D) (L : List Bx) (R : AE → List Bx → Prop) : Prop :=
alenL a0 fun t8 =>
alp [.i 0] L fun v2 w1 k2 =>
aar .lss (aix v2 0) t8 fun t10 =>
acnd t10 (aidxS 1 a0 (aix v2 0) fun t12 =>
ald1 t12 w1 fun t13 =>
acnd t13 (aidxS 1 a1 (aix v2 0) fun t18 =>
ald1 t18 w1 fun t19 =>
anotb t19 fun t20 =>
acnd t20 (R (.ret (.b false)) w1) (aar .add (aix v2 0) (.i 1) fun t22 =>
k2 [t22] w1)) (aar .add (aix v2 0) (.i 1) fun t22 =>
k2 [t22] w1)) (R (.ret (.b true)) w1)
theorem A125_eq : A125 = fun a0 a1 L R => aex pr ⟨[(5, [9])], []⟩ (bodyOf fn125) (aenv0 [a0, a1]) L (apost pr fn125.results.toList R) := by kernel_rfl
theorem s125 {a0 a1 : D} {L : List Bx} {R : AE → List Bx → Prop} (h : A125 a0 a1 L R) : ASpec pr 125 [a0, a1] L R :=
  aspec_of (A := ⟨[(5, [9])], []⟩) (fn := fn125) 2 mixed Tryd.func125 (by kernel_rfl) (by decide) rfl (by kernel_rfl) (by rw [A125_eq] at h; exact h)
noncomputable abbrev fn126 : Func := Tryd.f126
/- slices.Equal[[]bool,bool] -/
def A126 (a0 a1 : D) (L : List Bx) (R : AE → List Bx → Prop) : Prop :=
alenL a0 fun t7 =>
alenL a1 fun t9 =>
aar .neq t7 t9 fun t10 =>
acnd t10 (R (.ret (.b false)) L) (alenL a0 fun t12 =>
alp [.i 0] L fun v4 w1 k4 =>
aar .lss (aix v4 0) t12 fun t14 =>
acnd t14 (aidxS 1 a0 (aix v4 0) fun t18 =>
ald1 t18 w1 fun t19 =>
aidxS 1 a1 (aix v4 0) fun t22 =>
ald1 t22 w1 fun t23 =>
aarB .neq t19 t23 fun t24 =>
acnd t24 (R (.ret (.b false)) w1) (aar .add (aix v4 0) (.i 1) fun t25 =>
k4 [t25] w1)) (R (.ret (.b true)) w1))
theorem A126_eq : A126 = fun a0 a1 L R => aex pr ⟨[(9, [13])], [(6, [(0, 0), (1, 0), (2, 0), (3, 0), (4, 0), (5, 0), (6, 0), (7, 0), (8, 0)])]⟩ (bodyOf fn126) (aenv0 [a0, a1]) L (apost pr fn126.results.toList R) := by kernel_rfl
theorem s126 {a0 a1 : D} {L : List Bx} {R : AE → List Bx → Prop} (h : A126 a0 a1 L R) : ASpec pr 126 [a0, a1] L R :=
  aspec_of (A := ⟨[(9, [13])], [(6, [(0, 0), (1, 0), (2, 0), (3, 0), (4, 0), (5, 0), (6, 0), (7, 0), (8, 0)])]⟩) (fn := fn126) 2 mixed Tryd.func126 (by kernel_rfl) (by decide) rfl (by kernel_rfl) (by rw [A126_eq] at h; exact h)
noncomputable abbrev fn97 : Func := Tryd.f97
/- slices.Clone[[]bool,bool] -/
def A97 (a0 : D) (L : List Bx) (R : AE → List Bx → Prop) : Prop :=
aeqS false .eql a0 (.nil) fun t4 =>
acnd t4 (R (.ret (.nil)) L) (abldS 4 1 0 [] [] L fun t5 w1 =>
aapp 4 1 1 t5 a0 w1 fun t7 w2 =>
R (.ret t7) w2)
theorem A97_eq : A97 = fun a0 L R => aex pr ⟨[], []⟩ (bodyOf fn97) (aenv0 [a0]) L (apost pr fn97.results.toList R) := by kernel_rfl
theorem s97 {a0 : D} {L : List Bx} {R : AE → List Bx → Prop} (h : A97 a0 L R) : ASpec pr 97 [a0] L R :=
  aspec_of (A := ⟨[], []⟩) (fn := fn97) 1 mixed Tryd.func97 (by kernel_rfl) (by decide) rfl (by kernel_rfl) (by rw [A97_eq] at h; exact h)
noncomputable abbrev fn56 : Func := Tryd.f56
/- ashlar/eval.own -/
def A56 (a0 : D) (L : List Bx) (R : AE → List Bx → Prop) : Prop :=
abxv a0 L fun t1 w1 =>
abx [.i 0, .i 0, .b false, .nil] w1 fun t2 w2 =>
afld 3 t1 fun t3 =>
ald1 t3 w2 fun t4 =>
acallW pr 97 [t4] w2 (apn R) fun t5 w3 =>
afld 3 t1 fun t6 =>
ast 1 t6 t5 w3 fun w4 =>
aldN 4 t1 w4 fun t7 =>
ast 4 t2 t7 w4 fun w5 =>
aldN 4 t2 w5 fun r0 =>
R (.ret r0) w5
theorem A56_eq : A56 = fun a0 L R => aex pr ⟨[], []⟩ (bodyOf fn56) (aenv0 [a0]) L (apost pr fn56.results.toList R) := by kernel_rfl
theorem s56 {a0 : D} {L : List Bx} {R : AE → List Bx → Prop} (h : A56 a0 L R) : ASpec pr 56 [a0] L R :=
  aspec_of (A := ⟨[], []⟩) (fn := fn56) 1 mixed Tryd.func56 (by kernel_rfl) (by decide) rfl (by kernel_rfl) (by rw [A56_eq] at h; exact h)
noncomputable abbrev fn99 : Func := Tryd.f99
/- ashlar/eval.find$1 -/
def A99 (a0 a1 a2 : D) (L : List Bx) (R : AE → List Bx → Prop) : Prop :=
abxv a0 L fun t3 w1 =>
afld 0 t3 fun t5 =>
ald1 t5 w1 fun t6 =>
ald1 a1 w1 fun t7 =>
aar .eql t6 t7 fun t8 =>
acnd t8 (afld 1 t3 fun t10 =>
afld 0 t10 fun t11 =>
ald1 t11 w1 fun t12 =>
ald1 a2 w1 fun t13 =>
aar .eql t12 t13 fun t14 =>
R (.ret t14) w1) (R (.ret (.b false)) w1)
theorem A99_eq : A99 = fun a0 a1 a2 L R => aex pr ⟨[], []⟩ (bodyOf fn99) (aenv0 [a0, a1, a2]) L (apost pr fn99.results.toList R) := by kernel_rfl
theorem s99 {a0 a1 a2 : D} {L : List Bx} {R : AE → List Bx → Prop} (h : A99 a0 a1 a2 L R) : ASpec pr 99 [a0, a1, a2] L R :=
  aspec_of (A := ⟨[], []⟩) (fn := fn99) 3 mixed Tryd.func99 (by kernel_rfl) (by decide) rfl (by kernel_rfl) (by rw [A99_eq] at h; exact h)
noncomputable abbrev fn98 : Func := Tryd.f98
/- slices.IndexFunc[[]ashlar/api.Named,ashlar/api.Named] -/
def A98 (a0 a1 : D) (L : List Bx) (R : AE → List Bx → Prop) : Prop :=
alenL a0 fun t7 =>
alp [.i 0] L fun v2 w1 k2 =>
aar .lss (aix v2 0) t7 fun t9 =>
acnd t9 (aidxS 5 a0 (aix v2 0) fun t14 =>
aldN 5 t14 w1 fun t15 =>
acallF pr false a1 [t15] w1 (apn R) fun t16 w2 =>
acnd t16 (R (.ret (aix v2 0)) w2) (aar .add (aix v2 0) (.i 1) fun t18 =>
k2 [t18] w2)) (R (.ret (.i (-1))) w1)
theorem A98_eq : A98 = fun a0 a1 L R => aex pr ⟨[(5, [8])], []⟩ (bodyOf fn98) (aenv0 [a0, a1]) L (apost pr fn98.results.toList R) := by kernel_rfl
theorem s98 {a0 a1 : D} {L : List Bx} {R : AE → List Bx → Prop} (h : A98 a0 a1 L R) : ASpec pr 98 [a0, a1] L R :=
  aspec_of (A := ⟨[(5, [8])], []⟩) (fn := fn98) 2 mixed Tryd.func98 (by kernel_rfl) (by decide) rfl (by kernel_rfl) (by rw [A98_eq] at h; exact h)
noncomputable abbrev fn57 : Func := Tryd.f57
/- ashlar/eval.find -/
def A57 (a0 a1 a2 : D) (L : List Bx) (R : AE → List Bx → Prop) : Prop :=
abxv a0 L fun t3 w1 =>
abxv a1 w1 fun t4 w2 =>
abxv a2 w2 fun t5 w3 =>
afld 1 t3 fun t7 =>
ald1 t7 w3 fun t8 =>
acallW pr 98 [t8, .fn 99 [] [t4, t5]] w3 (apn R) fun t10 w4 =>
R (.ret t10) w4
theorem A57_eq : A57 = fun a0 a1 a2 L R => aex pr ⟨[], []⟩ (bodyOf fn57) (aenv0 [a0, a1, a2]) L (apost pr fn57.results.toList R) := by kernel_rfl
theorem s57 {a0 a1 a2 : D} {L : List Bx} {R : AE → List Bx → Prop} (h : A57 a0 a1 a2 L R) : ASpec pr 57 [a0, a1, a2] L R :=
  aspec_of (A := ⟨[], []⟩) (fn := fn57) 3 mixed Tryd.func57 (by kernel_rfl) (by decide) rfl (by kernel_rfl) (by rw [A57_eq] at h; exact h)
noncomputable abbrev fn55 : Func := Tryd.f55
/- ashlar/eval.is -/
def A55 (a0 a1 : D) (L : List Bx) (R : AE → List Bx → Prop) : Prop :=
abxv a0 L fun t2 w1 =>
ajn (fun v4 w2 =>
ajn (fun v6 w3 =>
afld 0 t2 fun t24 =>
ald1 t24 w3 fun t25 =>
aar .eql t25 (.i 1) fun t27 =>
acnd t27 (R (.ret (.b true)) w3) (aar .eql t25 (.i 3) fun t29 =>
acnd t29 (afld 1 t2 fun t30 =>
ald1 t30 w3 fun t31 =>
aar .geq t31 (.i 0) fun t32 =>
acnd t32 (afld 1 t2 fun t34 =>
ald1 t34 w3 fun t35 =>
aar .lss t35 a1 fun t37 =>
R (.ret t37) w3) (R (.ret (.b false)) w3)) (aar .eql t25 (.i 2) fun t40 =>
acnd t40 (acnd t40 (afld 1 t2 fun t42 =>
ald1 t42 w3 fun t43 =>
aar .eql t43 (.i 0) fun t44 =>
R (.ret t44) w3) (R (.ret (.b false)) w3)) (aar .eql t25 (.i 4) fun t41 =>
acnd t41 (afld 1 t2 fun t42 =>
ald1 t42 w3 fun t43 =>
aar .eql t43 (.i 0) fun t44 =>
R (.ret t44) w3) (R (.ret (.b false)) w3))))) fun j6 =>
afld 3 t2 fun t10 =>
ald1 t10 w2 fun t11 =>
alenL t11 fun t12 =>
aar .neq t12 (aix v4 0) fun t14 =>
acnd t14 (R (.ret (.b false)) w2) (afld 2 t2 fun t16 =>
ald1 t16 w2 fun t17 =>
ajn (fun y22 w4 =>
acnd (aix y22 0) (R (.ret (.b false)) w4) (j6 [] w4)) fun j22 =>
acnd t17 (afld 0 t2 fun t19 =>
ald1 t19 w2 fun t20 =>
aar .neq t20 (.i 4) fun t21 =>
j22 [t21] w2) (j22 [.b false] w2))) fun j4 =>
afld 0 t2 fun t6 =>
ald1 t6 w1 fun t7 =>
aar .eql t7 (.i 2) fun t8 =>
acnd t8 (j4 [a1] w1) (j4 [.i 0] w1)
theorem A55_eq : A55 = fun a0 a1 L R => aex pr ⟨[(8, [5]), (12, []), (3000022, [])], []⟩ (bodyOf fn55) (aenv0 [a0, a1]) L (apost pr fn55.results.toList R) := by kernel_rfl
theorem s55 {a0 a1 : D} {L : List Bx} {R : AE → List Bx → Prop} (h : A55 a0 a1 L R) : ASpec pr 55 [a0, a1] L R :=
  aspec_of (A := ⟨[(8, [5]), (12, []), (3000022, [])], []⟩) (fn := fn55) 2 mixed Tryd.func55 (by kernel_rfl) (by decide) rfl (by kernel_rfl) (by rw [A55_eq] at h; exact h)
noncomputable abbrev fn29 : Func := Tryd.f29
/- ashlar/eval.Right -/
def A29 (a0 : D) (L : List Bx) (R : AE → List Bx → Prop) : Prop :=
abxv a0 L fun t1 w1 =>
ajn (fun v3 w2 =>
amkM w2 fun t21 w3 =>
afld 1 t1 fun t22 =>
ald1 t22 w3 fun t23 =>
alenL t23 fun t24 =>
alp [.i 0] w3 fun v5 w4 k5 =>
aar .lss (aix v5 0) t24 fun t26 =>
acnd t26 (aidxS 5 t23 (aix v5 0) fun t27 =>
aldN 5 t27 w4 fun t28 =>
abx [.s ⟨#[]⟩, .i 0, .i 0, .b false, .nil] w4 fun t5 w5 =>
ast 5 t5 t28 w5 fun w6 =>
afld 0 t5 fun t29 =>
ald1 t29 w6 fun t30 =>
afld 1 t5 fun t31 =>
afld 0 t31 fun t32 =>
ald1 t32 w6 fun t33 =>
abld [.s ⟨#[]⟩, .i 0] [(0, 1, t30), (1, 1, t33)] fun t34 =>
abx [.s ⟨#[]⟩, .i 0] w6 fun t6 w7 =>
ast 2 t6 t34 w7 fun w8 =>
afld 0 t5 fun t35 =>
ald1 t35 w8 fun t36 =>
acallW pr 41 [t36] w8 (apn R) fun t37 w9 =>
anotb t37 fun t38 =>
acnd t38 (R (.ret (.b false)) w9) (afld 1 t5 fun t40 =>
aldN 4 t40 w9 fun t41 =>
afld 0 t1 fun t42 =>
ald1 t42 w9 fun t43 =>
acallW pr 55 [t41, t43] w9 (apn R) fun t44 w10 =>
anotb t44 fun t45 =>
acnd t45 (R (.ret (.b false)) w10) (aldN 2 t6 w10 fun t49 =>
alkM pr 86 false (.b false) t21 t49 w10 fun t50 =>
acnd t50 (R (.ret (.b false)) w10) (aldN 2 t6 w10 fun t53 =>
aupM pr 86 t21 t53 (.b true) w10 fun w11 =>
aar .add (aix v5 0) (.i 1) fun t54 =>
k5 [t54] w11)))) (R (.ret (.b true)) w4)) fun j3 =>
afld 0 t1 fun t7 =>
ald1 t7 w1 fun t8 =>
aar .lss t8 (.i 1) fun t9 =>
acnd t9 (R (.ret (.b false)) w1) (afld 0 t1 fun t11 =>
ald1 t11 w1 fun t12 =>
aar .gtr t12 (.i 64) fun t13 =>
acnd t13 (R (.ret (.b false)) w1) (afld 1 t1 fun t16 =>
ald1 t16 w1 fun t17 =>
alenL t17 fun t18 =>
aar .gtr t18 (.i 64) fun t19 =>
acnd t19 (R (.ret (.b false)) w1) (j3 [] w1)))
theorem A29_eq : A29 = fun a0 L R => aex pr ⟨[(6, []), (11, [25])], []⟩ (bodyOf fn29) (aenv0 [a0]) L (apost pr fn29.results.toList R) := by kernel_rfl
theorem s29 {a0 : D} {L : List Bx} {R : AE → List Bx → Prop} (h : A29 a0 L R) : ASpec pr 29 [a0] L R :=
  aspec_of (A := ⟨[(6, []), (11, [25])], []⟩) (fn := fn29) 1 mixed Tryd.func29 (by kernel_rfl) (by decide) rfl (by kernel_rfl) (by rw [A29_eq] at h; exact h)
noncomputable abbrev fn32 : Func := Tryd.f32
/- ashlar/eval.Get -/
def A32 (a0 a1 a2 : D) (L : List Bx) (R : AE → List Bx → Prop) : Prop :=
abxv a0 L fun t3 w1 =>
abx [.i 0, .i 0, .b false, .nil] w1 fun t6 w2 =>
aldN 2 t3 w2 fun t9 =>
acallW pr 57 [t9, a1, a2] w2 (apn R) fun t12 w3 =>
aar .lss t12 (.i 0) fun t14 =>
acnd t14 (abld [.i 0, .i 0, .b false, .nil] [] fun t15 =>
ast 4 t6 t15 w3 fun w4 =>
aldN 4 t6 w4 fun r0 =>
R (.ret (.tuple [r0, .b false])) w4) (afld 1 t3 fun t16 =>
ald1 t16 w3 fun t17 =>
aidxS 5 t17 t12 fun t19 =>
afld 1 t19 fun t20 =>
aldN 4 t20 w3 fun t21 =>
acallW pr 56 [t21] w3 (apn R) fun t22 w5 =>
ast 4 t6 t22 w5 fun w6 =>
aldN 4 t6 w6 fun r0 =>
R (.ret (.tuple [r0, .b true])) w6)
theorem A32_eq : A32 = fun a0 a1 a2 L R => aex pr ⟨[], []⟩ (bodyOf fn32) (aenv0 [a0, a1, a2]) L (apost pr fn32.results.toList R) := by kernel_rfl
theorem s32 {a0 a1 a2 : D} {L : List Bx} {R : AE → List Bx → Prop} (h : A32 a0 a1 a2 L R) : ASpec pr 32 [a0, a1, a2] L R :=
  aspec_of (A := ⟨[], []⟩) (fn := fn32) 3 mixed Tryd.func32 (by kernel_rfl) (by decide) rfl (by kernel_rfl) (by rw [A32_eq] at h; exact h)
noncomputable abbrev fn31 : Func := Tryd.f31
/- ashlar/eval.With -/
def A31 (a0 a1 a2 : D) (L : List Bx) (R : AE → List Bx → Prop) : Prop :=
abxv a0 L fun t3 w1 =>
abxv a2 w1 fun t5 w2 =>
abx [.i 0, .nil] w2 fun t6 w3 =>
afld 1 t3 fun t11 =>
ald1 t11 w3 fun t12 =>
alenL t12 fun t13 =>
aar .add t13 (.i 1) fun t14 =>
amkS 47 5 64 [.s ⟨#[]⟩, .i 0, .i 0, .b false, .nil] (.i 0) t14 w3 fun t15 w4 =>
afld 1 t3 fun t16 =>
ald1 t16 w4 fun t17 =>
alenL t17 fun t18 =>
alp [t15, .i 0] w4 fun v3 w5 k3 =>
aar .lss (aix v3 1) t18 fun t20 =>
acnd t20 (aidxS 5 t17 (aix v3 1) fun t21 =>
aldN 5 t21 w5 fun t22 =>
abx [.s ⟨#[]⟩, .i 0, .i 0, .b false, .nil] w5 fun t9 w6 =>
ast 5 t9 t22 w6 fun w7 =>
afld 0 t9 fun t24 =>
ald1 t24 w7 fun t25 =>
afld 1 t9 fun t26 =>
aldN 4 t26 w7 fun t27 =>
acallS pr 56 [t27] w7 (fun _ _ => False) fun t28 w8 =>
abld [.s ⟨#[]⟩, .i 0, .i 0, .b false, .nil] [(0, 1, t25), (1, 4, t28)] fun t29 =>
abldF 5 1 [.s ⟨#[]⟩, .i 0, .i 0, .b false, .nil] [(0, 5, t29)] fun t30 =>
aapp 47 5 64 (aix v3 0) t30 w8 fun t31 w9 =>
aar .add (aix v3 1) (.i 1) fun t32 =>
k3 [t31, t32] w9) (afld 1 t3 fun t34 =>
ast 1 t34 (aix v3 0) w5 fun w10 =>
aldN 2 t3 w10 fun t35 =>
afld 0 t5 fun t37 =>
ald1 t37 w10 fun t38 =>
acallW pr 57 [t35, a1, t38] w10 (apn R) fun t39 w11 =>
aar .geq t39 (.i 0) fun t41 =>
acnd t41 (afld 1 t3 fun t42 =>
ald1 t42 w11 fun t43 =>
aldN 4 t5 w11 fun t45 =>
acallS pr 56 [t45] w11 (fun _ _ => False) fun t46 w12 =>
aidxS 5 t43 t39 fun t47 =>
afld 1 t47 fun t48 =>
ast 4 t48 t46 w12 fun w13 =>
aldN 2 t3 w13 fun t58 =>
ast 2 t6 t58 w13 fun w14 =>
aldN 2 t6 w14 fun r0 =>
R (.ret r0) w14) (afld 1 t3 fun t49 =>
ald1 t49 w11 fun t50 =>
aldN 4 t5 w11 fun t52 =>
acallS pr 56 [t52] w11 (fun _ _ => False) fun t53 w15 =>
abld [.s ⟨#[]⟩, .i 0, .i 0, .b false, .nil] [(0, 1, a1), (1, 4, t53)] fun t54 =>
abldF 5 1 [.s ⟨#[]⟩, .i 0, .i 0, .b false, .nil] [(0, 5, t54)] fun t55 =>
aapp 47 5 64 t50 t55 w15 fun t56 w16 =>
afld 1 t3 fun t57 =>
ast 1 t57 t56 w16 fun w17 =>
aldN 2 t3 w17 fun t58 =>
ast 2 t6 t58 w17 fun w18 =>
aldN 2 t6 w18 fun r0 =>
R (.ret r0) w18))
theorem A31_eq : A31 = fun a0 a1 a2 L R => aex pr ⟨[(7, [7, 19])], [(5, [(0, 0), (1, 0), (2, 0), (3, 0), (4, 0), (5, 0), (6, 0), (7, 0), (8, 2), (9, 2)]), (10, [(0, 0), (1, 0), (2, 0), (3, 0), (4, 0), (5, 0), (6, 0), (7, 2)]), (11, [(0, 0), (1, 0), (2, 0), (3, 0), (4, 0), (5, 0), (6, 0), (7, 2), (8, 0), (9, 2)])]⟩ (bodyOf fn31) (aenv0 [a0, a1, a2]) L (apost pr fn31.results.toList R) := by kernel_rfl
theorem s31 {a0 a1 a2 : D} {L : List Bx} {R : AE → List Bx → Prop} (h : A31 a0 a1 a2 L R) : ASpec pr 31 [a0, a1, a2] L R :=
  aspec_of (A := ⟨[(7, [7, 19])], [(5, [(0, 0), (1, 0), (2, 0), (3, 0), (4, 0), (5, 0), (6, 0), (7, 0), (8, 2), (9, 2)]), (10, [(0, 0), (1, 0), (2, 0), (3, 0), (4, 0), (5, 0), (6, 0), (7, 2)]), (11, [(0, 0), (1, 0), (2, 0), (3, 0), (4, 0), (5, 0), (6, 0), (7, 2), (8, 0), (9, 2)])]⟩) (fn := fn31) 3 mixed Tryd.func31 (by kernel_rfl) (by decide) rfl (by kernel_rfl) (by rw [A31_eq] at h; exact h)
noncomputable abbrev fn30 : Func := Tryd.f30
/- ashlar/ashlarref04.Same -/
def A30 (a0 a1 : D) (L : List Bx) (R : AE → List Bx → Prop) : Prop :=
abxv a0 L fun t2 w1 =>
abxv a1 w1 fun t3 w2 =>
ajn (fun v3 w3 =>
alp [.i 0] w3 fun v4 w4 k4 =>
afld 3 t2 fun t35 =>
ald1 t35 w4 fun t36 =>
alenL t36 fun t37 =>
aar .lss (aix v4 0) t37 fun t38 =>
acnd t38 (afld 3 t2 fun t41 =>
ald1 t41 w4 fun t42 =>
aidxS 1 t42 (aix v4 0) fun t44 =>
ald1 t44 w4 fun t45 =>
afld 3 t3 fun t46 =>
ald1 t46 w4 fun t47 =>
aidxS 1 t47 (aix v4 0) fun t49 =>
ald1 t49 w4 fun t50 =>
aarB .neq t45 t50 fun t51 =>
acnd t51 (R (.ret (.b false)) w4) (aar .add (aix v4 0) (.i 1) fun t40 =>
k4 [t40] w4)) (R (.ret (.b true)) w4)) fun j3 =>
afld 0 t2 fun t6 =>
ald1 t6 w2 fun t7 =>
afld 0 t3 fun t8 =>
ald1 t8 w2 fun t9 =>
aar .neq t7 t9 fun t10 =>
acnd t10 (R (.ret (.b false)) w2) (afld 1 t2 fun t12 =>
ald1 t12 w2 fun t13 =>
afld 1 t3 fun t14 =>
ald1 t14 w2 fun t15 =>
aar .neq t13 t15 fun t16 =>
acnd t16 (R (.ret (.b false)) w2) (afld 2 t2 fun t19 =>
ald1 t19 w2 fun t20 =>
afld 2 t3 fun t21 =>
ald1 t21 w2 fun t22 =>
aarB .neq t20 t22 fun t23 =>
acnd t23 (R (.ret (.b false)) w2) (afld 3 t2 fun t26 =>
ald1 t26 w2 fun t27 =>
alenL t27 fun t28 =>
afld 3 t3 fun t29 =>
ald1 t29 w2 fun t30 =>
alenL t30 fun t31 =>
aar .neq t28 t31 fun t32 =>
acnd t32 (R (.ret (.b false)) w2) (j3 [] w2))))
theorem A30_eq : A30 = fun a0 a1 L R => aex pr ⟨[(6, []), (9, [5])], [(6, [(0, 0), (1, 0), (2, 0), (3, 0), (4, 0), (5, 0), (6, 0), (7, 0), (8, 0), (9, 0), (10, 0)])]⟩ (bodyOf fn30) (aenv0 [a0, a1]) L (apost pr fn30.results.toList R) := by kernel_rfl
theorem s30 {a0 a1 : D} {L : List Bx} {R : AE → List Bx → Prop} (h : A30 a0 a1 L R) : ASpec pr 30 [a0, a1] L R :=
  aspec_of (A := ⟨[(6, []), (9, [5])], [(6, [(0, 0), (1, 0), (2, 0), (3, 0), (4, 0), (5, 0), (6, 0), (7, 0), (8, 0), (9, 0), (10, 0)])]⟩) (fn := fn30) 2 mixed Tryd.func30 (by kernel_rfl) (by decide) rfl (by kernel_rfl) (by rw [A30_eq] at h; exact h)
noncomputable abbrev fn28 : Func := Tryd.f28
/- ashlar/ashlarref04.Ints -/
def A28 (a0 a1 a2 : D) (L : List Bx) (R : AE → List Bx → Prop) : Prop :=
aar .eql a0 (.i 4) fun t13 =>
acnd t13 (aar .add a1 a2 fun t16 =>
aar .lss a1 (.i 0) fun t19 =>
aar .lss a2 (.i 0) fun t21 =>
aarB .neq t19 t21 fun t22 =>
acnd t22 (R (.ret (.tuple [t16, .b true])) L) (aar .lss t16 (.i 0) fun t25 =>
aar .lss a1 (.i 0) fun t27 =>
aarB .eql t25 t27 fun t28 =>
R (.ret (.tuple [t16, t28])) L)) (aar .eql a0 (.i 5) fun t31 =>
acnd t31 (aar .sub a1 a2 fun t34 =>
aar .lss a1 (.i 0) fun t37 =>
aar .lss a2 (.i 0) fun t39 =>
aarB .eql t37 t39 fun t40 =>
acnd t40 (R (.ret (.tuple [t34, .b true])) L) (aar .lss t34 (.i 0) fun t43 =>
aar .lss a1 (.i 0) fun t45 =>
aarB .eql t43 t45 fun t46 =>
R (.ret (.tuple [t34, t46])) L)) (ajn (fun v10 w1 =>
aar .mul a1 a2 fun t56 =>
aar .quo t56 a2 fun t60 =>
aar .eql t60 a1 fun t62 =>
acnd t62 (aar .eql a1 (.i (-1)) fun t65 =>
ajn (fun y69 w2 =>
anotb (aix y69 0) fun t70 =>
acnd t70 (aar .eql a2 (.i (-1)) fun t74 =>
ajn (fun y78 w3 =>
anotb (aix y78 0) fun t79 =>
R (.ret (.tuple [t56, t79])) w3) fun j78 =>
acnd t74 (aar .eql a1 (.i (-9223372036854775808)) fun t77 =>
j78 [t77] w2) (j78 [.b false] w2)) (R (.ret (.tuple [t56, .b false])) w2)) fun j69 =>
acnd t65 (aar .eql a2 (.i (-9223372036854775808)) fun t68 =>
j69 [t68] w1) (j69 [.b false] w1)) (R (.ret (.tuple [t56, .b false])) w1)) fun j10 =>
aar .eql a1 (.i 0) fun t49 =>
acnd t49 (R (.ret (.tuple [.i 0, .b true])) L) (aar .eql a2 (.i 0) fun t52 =>
acnd t52 (R (.ret (.tuple [.i 0, .b true])) L) (j10 [] L))))
theorem A28_eq : A28 = fun a0 a1 a2 L R => aex pr ⟨[(20, []), (3000069, []), (3000078, [])], []⟩ (bodyOf fn28) (aenv0 [a0, a1, a2]) L (apost pr fn28.results.toList R) := by kernel_rfl
theorem s28 {a0 a1 a2 : D} {L : List Bx} {R : AE → List Bx → Prop} (h : A28 a0 a1 a2 L R) : ASpec pr 28 [a0, a1, a2] L R :=
  aspec_of (A := ⟨[(20, []), (3000069, []), (3000078, [])], []⟩) (fn := fn28) 3 mixed Tryd.func28 (by kernel_rfl) (by decide) rfl (by kernel_rfl) (by rw [A28_eq] at h; exact h)
noncomputable abbrev fn85 : Func := Tryd.f85
/- (ashlar/eval.world).name -/
def A85 (a0 a1 a2 : D) (L : List Bx) (R : AE → List Bx → Prop) : Prop :=
abxv a0 L fun t3 w1 =>
abxv a1 w1 fun t4 w2 =>
abx [.i 0, .i 0, .b false, .nil] w2 fun t6 w3 =>
afld 0 t3 fun t10 =>
aldN 2 t10 w3 fun t11 =>
afld 1 t4 fun t12 =>
ald1 t12 w3 fun t13 =>
acallW pr 32 [t11, t13, a2] w3 (apn R) fun t15 w4 =>
aext 0 t15 fun t16 =>
aext 1 t15 fun t17 =>
abx [.i 0, .i 0, .b false, .nil] w4 fun t7 w5 =>
ast 4 t7 t16 w5 fun w6 =>
anotb t17 fun t19 =>
acnd t19 (apn R (.ifc 79 (.i 4)) w6) (aldN 4 t7 w6 fun t21 =>
ast 4 t6 t21 w6 fun w7 =>
aldN 4 t6 w7 fun r0 =>
R (.ret r0) w7)
theorem A85_eq : A85 = fun a0 a1 a2 L R => aex pr ⟨[], []⟩ (bodyOf fn85) (aenv0 [a0, a1, a2]) L (apost pr fn85.results.toList R) := by kernel_rfl
theorem s85 {a0 a1 a2 : D} {L : List Bx} {R : AE → List Bx → Prop} (h : A85 a0 a1 a2 L R) : ASpec pr 85 [a0, a1, a2] L R :=
  aspec_of (A := ⟨[], []⟩) (fn := fn85) 3 mixed Tryd.func85 (by kernel_rfl) (by decide) rfl (by kernel_rfl) (by rw [A85_eq] at h; exact h)
noncomputable abbrev fn88 : Func := Tryd.f88
/- (ashlar/eval.world).value$1 -/
def A88 (a0 : D) (L : List Bx) (R : AE → List Bx → Prop) : Prop :=
R (.ret (.b false)) L
theorem A88_eq : A88 = fun a0 L R => aex pr ⟨[], []⟩ (bodyOf fn88) (aenv0 [a0]) L (apost pr fn88.results.toList R) := by kernel_rfl
theorem s88 {a0 : D} {L : List Bx} {R : AE → List Bx → Prop} (h : A88 a0 L R) : ASpec pr 88 [a0] L R :=
  aspec_of (A := ⟨[], []⟩) (fn := fn88) 1 mixed Tryd.func88 (by kernel_rfl) (by decide) rfl (by kernel_rfl) (by rw [A88_eq] at h; exact h)
noncomputable abbrev fn89 : Func := Tryd.f89
/- (ashlar/eval.world).value$2 -/
def A89 (a0 : D) (L : List Bx) (R : AE → List Bx → Prop) : Prop :=
R (.ret (.b true)) L
theorem A89_eq : A89 = fun a0 L R => aex pr ⟨[], []⟩ (bodyOf fn89) (aenv0 [a0]) L (apost pr fn89.results.toList R) := by kernel_rfl
theorem s89 {a0 : D} {L : List Bx} {R : AE → List Bx → Prop} (h : A89 a0 L R) : ASpec pr 89 [a0] L R :=
  aspec_of (A := ⟨[], []⟩) (fn := fn89) 1 mixed Tryd.func89 (by kernel_rfl) (by decide) rfl (by kernel_rfl) (by rw [A89_eq] at h; exact h)
noncomputable abbrev fn91 : Func := Tryd.f91
/- (ashlar/eval.world).value$3 -/
def A91 (a0 a1 : D) (L : List Bx) (R : AE → List Bx → Prop) : Prop :=
ald1 a1 L fun t5 =>
aar .eql a0 t5 fun t6 =>
R (.ret t6) L
theorem A91_eq : A91 = fun a0 a1 L R => aex pr ⟨[], []⟩ (bodyOf fn91) (aenv0 [a0, a1]) L (apost pr fn91.results.toList R) := by kernel_rfl
theorem s91 {a0 a1 : D} {L : List Bx} {R : AE → List Bx → Prop} (h : A91 a0 a1 L R) : ASpec pr 91 [a0, a1] L R :=
  aspec_of (A := ⟨[], []⟩) (fn := fn91) 2 mixed Tryd.func91 (by kernel_rfl) (by decide) rfl (by kernel_rfl) (by rw [A91_eq] at h; exact h)
noncomputable abbrev fn93 : Func := Tryd.f93
/- (ashlar/eval.world).value$4 -/
def A93 (a0 a1 a2 : D) (L : List Bx) (R : AE → List Bx → Prop) : Prop :=
ald1 a1 L fun t5 =>
aidxS 1 t5 a0 fun t7 =>
ald1 t7 L fun t8 =>
acnd t8 (R (.ret (.b true)) L) (ald1 a2 L fun t10 =>
aidxS 1 t10 a0 fun t12 =>
ald1 t12 L fun t13 =>
R (.ret t13) L)
theorem A93_eq : A93 = fun a0 a1 a2 L R => aex pr ⟨[], []⟩ (bodyOf fn93) (aenv0 [a0, a1, a2]) L (apost pr fn93.results.toList R) := by kernel_rfl
theorem s93 {a0 a1 a2 : D} {L : List Bx} {R : AE → List Bx → Prop} (h : A93 a0 a1 a2 L R) : ASpec pr 93 [a0, a1, a2] L R :=
  aspec_of (A := ⟨[], []⟩) (fn := fn93) 3 mixed Tryd.func93 (by kernel_rfl) (by decide) rfl (by kernel_rfl) (by rw [A93_eq] at h; exact h)
noncomputable abbrev fn94 : Func := Tryd.f94
/- (ashlar/eval.world).value$5 -/
def A94 (a0 a1 a2 : D) (L : List Bx) (R : AE → List Bx → Prop) : Prop :=
ald1 a1 L fun t5 =>
aidxS 1 t5 a0 fun t7 =>
ald1 t7 L fun t8 =>
acnd t8 (ald1 a2 L fun t10 =>
aidxS 1 t10 a0 fun t12 =>
ald1 t12 L fun t13 =>
R (.ret t13) L) (R (.ret (.b false)) L)
theorem A94_eq : A94 = fun a0 a1 a2 L R => aex pr ⟨[], []⟩ (bodyOf fn94) (aenv0 [a0, a1, a2]) L (apost pr fn94.results.toList R) := by kernel_rfl
theorem s94 {a0 a1 a2 : D} {L : List Bx} {R : AE → List Bx → Prop} (h : A94 a0 a1 a2 L R) : ASpec pr 94 [a0, a1, a2] L R :=
  aspec_of (A := ⟨[], []⟩) (fn := fn94) 3 mixed Tryd.func94 (by kernel_rfl) (by decide) rfl (by kernel_rfl) (by rw [A94_eq] at h; exact h)
noncomputable abbrev fn95 : Func := Tryd.f95
/- (ashlar/eval.world).value$6 -/
def A95 (a0 a1 a2 : D) (L : List Bx) (R : AE → List Bx → Prop) : Prop :=
ald1 a1 L fun t5 =>
aidxS 1 t5 a0 fun t7 =>
ald1 t7 L fun t8 =>
acnd t8 (ald1 a2 L fun t10 =>
aidxS 1 t10 a0 fun t12 =>
ald1 t12 L fun t13 =>
anotb t13 fun t14 =>
R (.ret t14) L) (R (.ret (.b false)) L)
theorem A95_eq : A95 = fun a0 a1 a2 L R => aex pr ⟨[], []⟩ (bodyOf fn95) (aenv0 [a0, a1, a2]) L (apost pr fn95.results.toList R) := by kernel_rfl
theorem s95 {a0 a1 a2 : D} {L : List Bx} {R : AE → List Bx → Prop} (h : A95 a0 a1 a2 L R) : ASpec pr 95 [a0, a1, a2] L R :=
  aspec_of (A := ⟨[], []⟩) (fn := fn95) 3 mixed Tryd.func95 (by kernel_rfl) (by decide) rfl (by kernel_rfl) (by rw [A95_eq] at h; exact h)
noncomputable abbrev fn87 : Func := Tryd.f87
/- (ashlar/eval.world).where -/
def A87 (a0 a1 : D) (L : List Bx) (R : AE → List Bx → Prop) : Prop :=
abxv a0 L fun t2 w1 =>
abx [.i 0, .i 0, .b false, .nil] w1 fun t4 w2 =>
afld 0 t2 fun t7 =>
afld 0 t7 fun t8 =>
ald1 t8 w2 fun t9 =>
amkS 4 1 1 [.b false] t9 t9 w2 fun t10 w3 =>
abld [.i 0, .i 0, .b false, .nil] [(0, 1, .i 2), (3, 1, t10)] fun t11 =>
abx [.i 0, .i 0, .b false, .nil] w3 fun t5 w4 =>
ast 4 t5 t11 w4 fun w5 =>
afld 3 t5 fun t12 =>
ald1 t12 w5 fun t13 =>
alenL t13 fun t14 =>
alp [.i 0] w5 fun v3 w6 k3 =>
aar .lss (aix v3 0) t14 fun t16 =>
acnd t16 (afld 3 t5 fun t18 =>
ald1 t18 w6 fun t19 =>
acallF pr true a1 [aix v3 0] w6 (fun _ _ => False) fun t23 w7 =>
aidxS 1 t19 (aix v3 0) fun t24 =>
ast 1 t24 t23 w7 fun w8 =>
aar .add (aix v3 0) (.i 1) fun t25 =>
k3 [t25] w8) (aldN 4 t5 w6 fun t26 =>
ast 4 t4 t26 w6 fun w9 =>
aldN 4 t4 w9 fun r0 =>
R (.ret r0) w9)
theorem A87_eq : A87 = fun a0 a1 L R => aex pr ⟨[(7, [15])], [(5, [(0, 0), (1, 0), (2, 0), (3, 0), (4, 0), (5, 0), (6, 0), (7, 2)])]⟩ (bodyOf fn87) (aenv0 [a0, a1]) L (apost pr fn87.results.toList R) := by kernel_rfl
theorem s87 {a0 a1 : D} {L : List Bx} {R : AE → List Bx → Prop} (h : A87 a0 a1 L R) : ASpec pr 87 [a0, a1] L R :=
  aspec_of (A := ⟨[(7, [15])], [(5, [(0, 0), (1, 0), (2, 0), (3, 0), (4, 0), (5, 0), (6, 0), (7, 2)])]⟩) (fn := fn87) 2 mixed Tryd.func87 (by kernel_rfl) (by decide) rfl (by kernel_rfl) (by rw [A87_eq] at h; exact h)
noncomputable abbrev fn90 : Func := Tryd.f90
/- (ashlar/eval.world).int -/
def A90 (a0 a1 : D) (L : List Bx) (R : AE → List Bx → Prop) : Prop :=
abxv a0 L fun t2 w1 =>
abxv a1 w1 fun t3 w2 =>
aldN 2 t2 w2 fun t5 =>
aldN 4 t3 w2 fun t6 =>
acallW pr 54 [t5, t6] w2 (apn R) fun t7 w3 =>
afield1 1 t7 fun t8 =>
R (.ret t8) w3
theorem A90_eq : A90 = fun a0 a1 L R => aex pr ⟨[], []⟩ (bodyOf fn90) (aenv0 [a0, a1]) L (apost pr fn90.results.toList R) := by kernel_rfl
theorem s90 {a0 a1 : D} {L : List Bx} {R : AE → List Bx → Prop} (h : A90 a0 a1 L R) : ASpec pr 90 [a0, a1] L R :=
  aspec_of (A := ⟨[], []⟩) (fn := fn90) 2 mixed Tryd.func90 (by kernel_rfl) (by decide) rfl (by kernel_rfl) (by rw [A90_eq] at h; exact h)
noncomputable abbrev fn119 : Func := Tryd.f119
/- (ashlar/eval.world).set -/
def A119 (a0 a1 : D) (L : List Bx) (R : AE → List Bx → Prop) : Prop :=
abxv a0 L fun t2 w1 =>
abxv a1 w1 fun t3 w2 =>
aldN 2 t2 w2 fun t5 =>
aldN 4 t3 w2 fun t6 =>
acallW pr 54 [t5, t6] w2 (apn R) fun t7 w3 =>
afield1 3 t7 fun t8 =>
R (.ret t8) w3
theorem A119_eq : A119 = fun a0 a1 L R => aex pr ⟨[], []⟩ (bodyOf fn119) (aenv0 [a0, a1]) L (apost pr fn119.results.toList R) := by kernel_rfl
theorem s119 {a0 a1 : D} {L : List Bx} {R : AE → List Bx → Prop} (h : A119 a0 a1 L R) : ASpec pr 119 [a0, a1] L R :=
  aspec_of (A := ⟨[], []⟩) (fn := fn119) 2 mixed Tryd.func119 (by kernel_rfl) (by decide) rfl (by kernel_rfl) (by rw [A119_eq] at h; exact h)
noncomputable abbrev fn92 : Func := Tryd.f92
/- (ashlar/eval.world).both -/
def A92 (a0 a1 : D) (L : List Bx) (R : AE → List Bx → Prop) : Prop :=
abxv a0 L fun t2 w1 =>
abxv a1 w1 fun t3 w2 =>
aldN 2 t2 w2 fun t6 =>
afld 3 t3 fun t7 =>
ald1 t7 w2 fun t8 =>
aidxS 4 t8 (.i 0) fun t9 =>
aldN 4 t9 w2 fun t10 =>
acallS pr 119 [t6, t10] w2 (apn R) fun t11 w3 =>
aldN 2 t2 w3 fun t13 =>
afld 3 t3 fun t14 =>
ald1 t14 w3 fun t15 =>
aidxS 4 t15 (.i 1) fun t16 =>
aldN 4 t16 w3 fun t17 =>
acallS pr 119 [t13, t17] w3 (apn R) fun t18 w4 =>
R (.ret (.tuple [t11, t18])) w4
theorem A92_eq : A92 = fun a0 a1 L R => aex pr ⟨[], [(1, [(0, 0), (1, 0), (2, 0), (3, 0), (4, 0), (5, 1), (6, 2)]), (2, [(0, 0), (1, 0), (2, 0), (3, 0), (4, 0), (5, 0), (6, 1), (7, 2), (8, 2)])]⟩ (bodyOf fn92) (aenv0 [a0, a1]) L (apost pr fn92.results.toList R) := by kernel_rfl
theorem s92 {a0 a1 : D} {L : List Bx} {R : AE → List Bx → Prop} (h : A92 a0 a1 L R) : ASpec pr 92 [a0, a1] L R :=
  aspec_of (A := ⟨[], [(1, [(0, 0), (1, 0), (2, 0), (3, 0), (4, 0), (5, 1), (6, 2)]), (2, [(0, 0), (1, 0), (2, 0), (3, 0), (4, 0), (5, 0), (6, 1), (7, 2), (8, 2)])]⟩) (fn := fn92) 2 mixed Tryd.func92 (by kernel_rfl) (by decide) rfl (by kernel_rfl) (by rw [A92_eq] at h; exact h)
noncomputable abbrev fn124 : Func := Tryd.f124
/- (ashlar/eval.world).bools -/
def A124 (a0 a1 : D) (L : List Bx) (R : AE → List Bx → Prop) : Prop :=
abxv a0 L fun t2 w1 =>
alenL a1 fun t10 =>
alp [.b true, .b false, .i 0] w1 fun v3 w2 k3 =>
aar .lss (aix v3 2) t10 fun t12 =>
acnd t12 (aidxS 4 a1 (aix v3 2) fun t13 =>
aldN 4 t13 w2 fun t14 =>
abx [.i 0, .s ⟨#[]⟩, .i 0, .nil] w2 fun t7 w3 =>
ast 4 t7 t14 w3 fun w4 =>
aldN 2 t2 w4 fun t15 =>
aldN 4 t7 w4 fun t16 =>
acallW pr 54 [t15, t16] w4 (apn R) fun t17 w5 =>
afield1 2 t17 fun t18 =>
acnd (aix v3 0) (acnd (aix v3 1) (aar .add (aix v3 2) (.i 1) fun t27 =>
k3 [t18, .b true, t27] w5) (aar .add (aix v3 2) (.i 1) fun t27 =>
k3 [t18, t18, t27] w5)) (acnd (aix v3 1) (aar .add (aix v3 2) (.i 1) fun t27 =>
k3 [.b false, .b true, t27] w5) (aar .add (aix v3 2) (.i 1) fun t27 =>
k3 [.b false, t18, t27] w5))) (R (.ret (.tuple [aix v3 0, aix v3 1])) w2)
theorem A124_eq : A124 = fun a0 a1 L R => aex pr ⟨[(7, [4, 5, 11])], []⟩ (bodyOf fn124) (aenv0 [a0, a1]) L (apost pr fn124.results.toList R) := by kernel_rfl
theorem s124 {a0 a1 : D} {L : List Bx} {R : AE → List Bx → Prop} (h : A124 a0 a1 L R) : ASpec pr 124 [a0, a1] L R :=
  aspec_of (A := ⟨[(7, [4, 5, 11])], []⟩) (fn := fn124) 2 mixed Tryd.func124 (by kernel_rfl) (by decide) rfl (by kernel_rfl) (by rw [A124_eq] at h; exact h)
noncomputable abbrev fn96 : Func := Tryd.f96
/- (ashlar/eval.world).holds -/
def A96 (a0 a1 : D) (L : List Bx) (R : AE → List Bx → Prop) : Prop :=
abxv a0 L fun t2 w1 =>
abxv a1 w1 fun t3 w2 =>
ajn (fun v24 w3 =>
aldN 2 t2 w3 fun t109 =>
afld 3 t3 fun t110 =>
ald1 t110 w3 fun t111 =>
aidxS 4 t111 (.i 0) fun t112 =>
aldN 4 t112 w3 fun t113 =>
acallS pr 90 [t109, t113] w3 (apn R) fun t114 w4 =>
aldN 2 t2 w4 fun t115 =>
afld 3 t3 fun t116 =>
ald1 t116 w4 fun t117 =>
aidxS 4 t117 (.i 1) fun t118 =>
aldN 4 t118 w4 fun t119 =>
acallS pr 90 [t115, t119] w4 (apn R) fun t120 w5 =>
afld 0 t3 fun t121 =>
ald1 t121 w5 fun t122 =>
aar .eql t122 (.i 22) fun t124 =>
acnd t124 (aar .leq t114 t120 fun t127 =>
R (.ret t127) w5) (aar .eql t122 (.i 23) fun t129 =>
acnd t129 (aar .lss t114 t120 fun t132 =>
R (.ret t132) w5) (aar .eql t114 t120 fun t135 =>
R (.ret t135) w5))) fun j24 =>
afld 0 t3 fun t15 =>
ald1 t15 w2 fun t16 =>
ajn (fun v4 w6 =>
acnd (aix v4 0) (afld 0 t3 fun t20 =>
ald1 t20 w6 fun t21 =>
aar .eql t21 (.i 16) fun t22 =>
R (.ret t22) w6) (aar .eql t16 (.i 18) fun t24 =>
acnd t24 (aldN 2 t2 w6 fun t25 =>
afld 3 t3 fun t26 =>
ald1 t26 w6 fun t27 =>
aidxS 4 t27 (.i 0) fun t28 =>
aldN 4 t28 w6 fun t29 =>
acallS pr 54 [t25, t29] w6 (apn R) fun t30 w7 =>
afield1 2 t30 fun t31 =>
anotb t31 fun t32 =>
R (.ret t32) w7) (aar .eql t16 (.i 19) fun t34 =>
acnd t34 (aldN 2 t2 w6 fun t36 =>
afld 3 t3 fun t37 =>
ald1 t37 w6 fun t38 =>
acallW pr 124 [t36, t38] w6 (apn R) fun t39 w8 =>
aext 0 t39 fun t40 =>
aext 1 t39 fun t41 =>
R (.ret t40) w8) (aar .eql t16 (.i 20) fun t44 =>
acnd t44 (aldN 2 t2 w6 fun t46 =>
afld 3 t3 fun t47 =>
ald1 t47 w6 fun t48 =>
acallW pr 124 [t46, t48] w6 (apn R) fun t49 w9 =>
aext 0 t49 fun t50 =>
aext 1 t49 fun t51 =>
R (.ret t51) w9) (aar .eql t16 (.i 21) fun t54 =>
acnd t54 (aldN 2 t2 w6 fun t55 =>
afld 3 t3 fun t56 =>
ald1 t56 w6 fun t57 =>
aidxS 4 t57 (.i 0) fun t58 =>
aldN 4 t58 w6 fun t59 =>
acallS pr 54 [t55, t59] w6 (apn R) fun t60 w10 =>
afield1 2 t60 fun t61 =>
aldN 2 t2 w10 fun t62 =>
afld 3 t3 fun t63 =>
ald1 t63 w10 fun t64 =>
aidxS 4 t64 (.i 1) fun t65 =>
aldN 4 t65 w10 fun t66 =>
acallS pr 54 [t62, t66] w10 (apn R) fun t67 w11 =>
afield1 2 t67 fun t68 =>
acnd t68 (R (.ret (.b true)) w11) (anotb t61 fun t71 =>
R (.ret t71) w11)) (aar .eql t16 (.i 26) fun t74 =>
acnd t74 (aldN 2 t2 w6 fun t76 =>
aldN 4 t3 w6 fun t77 =>
acallW pr 92 [t76, t77] w6 (apn R) fun t78 w12 =>
aext 0 t78 fun t79 =>
aext 1 t78 fun t80 =>
acallW pr 125 [t79, t80] w12 (apn R) fun t83 w13 =>
R (.ret t83) w13) (aar .eql t16 (.i 27) fun t85 =>
acnd t85 (aldN 2 t2 w6 fun t86 =>
aldN 4 t3 w6 fun t87 =>
acallW pr 92 [t86, t87] w6 (apn R) fun t88 w14 =>
aext 0 t88 fun t89 =>
aext 1 t88 fun t90 =>
acallW pr 126 [t89, t90] w14 (apn R) fun t91 w15 =>
R (.ret t91) w15) (aar .eql t16 (.i 25) fun t93 =>
acnd t93 (aldN 2 t2 w6 fun t94 =>
afld 3 t3 fun t95 =>
ald1 t95 w6 fun t96 =>
aidxS 4 t96 (.i 0) fun t97 =>
aldN 4 t97 w6 fun t98 =>
acallS pr 90 [t94, t98] w6 (apn R) fun t99 w16 =>
aldN 2 t2 w16 fun t100 =>
afld 3 t3 fun t101 =>
ald1 t101 w16 fun t102 =>
aidxS 4 t102 (.i 1) fun t103 =>
aldN 4 t103 w16 fun t104 =>
acallS pr 119 [t100, t104] w16 (apn R) fun t105 w17 =>
aidxS 1 t105 t99 fun t107 =>
ald1 t107 w17 fun t108 =>
R (.ret t108) w17) (j24 [] w6))))))))) fun j4 =>
aar .eql t16 (.i 16) fun t18 =>
acnd t18 (j4 [t18] w2) (aar .eql t16 (.i 17) fun t19 =>
j4 [t19] w2)
theorem A96_eq : A96 = fun a0 a1 L R => aex pr ⟨[(8, [17]), (48, [])], [(6, [(0, 0), (1, 0), (2, 0), (3, 0), (4, 0), (5, 1), (6, 0), (7, 0), (8, 2)]), (14, [(0, 0), (1, 0), (2, 0), (3, 0), (4, 0), (5, 1), (6, 0), (7, 2)]), (15, [(0, 0), (1, 0), (2, 0), (3, 0), (4, 0), (5, 1), (6, 0), (7, 0), (8, 0), (9, 0), (10, 0), (11, 2)]), (22, [(0, 0), (1, 0), (2, 0), (3, 0), (4, 0), (5, 1), (6, 2)]), (23, [(0, 0), (1, 0), (2, 0), (3, 0), (4, 0), (6, 0), (5, 1), (7, 0), (8, 0), (9, 2)]), (24, [(0, 0), (1, 0), (2, 0), (3, 0), (4, 0), (5, 1), (6, 2)]), (25, [(0, 0), (1, 0), (2, 0), (3, 0), (4, 0), (5, 1), (6, 2)])]⟩ (bodyOf fn96) (aenv0 [a0, a1]) L (apost pr fn96.results.toList R) := by kernel_rfl
theorem s96 {a0 a1 : D} {L : List Bx} {R : AE → List Bx → Prop} (h : A96 a0 a1 L R) : ASpec pr 96 [a0, a1] L R :=
  aspec_of (A := ⟨[(8, [17]), (48, [])], [(6, [(0, 0), (1, 0), (2, 0), (3, 0), (4, 0), (5, 1), (6, 0), (7, 0), (8, 2)]), (14, [(0, 0), (1, 0), (2, 0), (3, 0), (4, 0), (5, 1), (6, 0), (7, 2)]), (15, [(0, 0), (1, 0), (2, 0), (3, 0), (4, 0), (5, 1), (6, 0), (7, 0), (8, 0), (9, 0), (10, 0), (11, 2)]), (22, [(0, 0), (1, 0), (2, 0), (3, 0), (4, 0), (5, 1), (6, 2)]), (23, [(0, 0), (1, 0), (2, 0), (3, 0), (4, 0), (6, 0), (5, 1), (7, 0), (8, 0), (9, 2)]), (24, [(0, 0), (1, 0), (2, 0), (3, 0), (4, 0), (5, 1), (6, 2)]), (25, [(0, 0), (1, 0), (2, 0), (3, 0), (4, 0), (5, 1), (6, 2)])]⟩) (fn := fn96) 2 mixed Tryd.func96 (by kernel_rfl) (by decide) rfl (by kernel_rfl) (by rw [A96_eq] at h; exact h)
noncomputable abbrev fn86 : Func := Tryd.f86
/- (ashlar/eval.world).number -/
def A86 (a0 a1 : D) (L : List Bx) (R : AE → List Bx → Prop) : Prop :=
abxv a0 L fun t2 w1 =>
abxv a1 w1 fun t3 w2 =>
afld 0 t3 fun t7 =>
ald1 t7 w2 fun t8 =>
aar .eql t8 (.i 3) fun t10 =>
acnd t10 (aldN 2 t2 w2 fun t11 =>
afld 3 t3 fun t12 =>
ald1 t12 w2 fun t13 =>
aidxS 4 t13 (.i 0) fun t14 =>
aldN 4 t14 w2 fun t15 =>
acallS pr 119 [t11, t15] w2 (apn R) fun t16 w3 =>
acallS pr 118 [t16] w3 (fun _ _ => False) fun t17 w4 =>
R (.ret t17) w4) (aar .eql t8 (.i 6) fun t19 =>
acnd t19 (afld 2 t3 fun t20 =>
ald1 t20 w2 fun t21 =>
aldN 2 t2 w2 fun t22 =>
afld 3 t3 fun t23 =>
ald1 t23 w2 fun t24 =>
aidxS 4 t24 (.i 0) fun t25 =>
aldN 4 t25 w2 fun t26 =>
acallS pr 90 [t22, t26] w2 (apn R) fun t27 w5 =>
acallS pr 121 [t21, t27] w5 (fun _ _ => False) fun t28 w6 =>
aext 0 t28 fun t29 =>
aext 1 t28 fun t30 =>
acallS pr 120 [t29, t30] w6 (apn R) fun t31 w7 =>
R (.ret t31) w7) (ajn (fun v8 w8 =>
acnd (aix v8 0) (aldN 2 t2 w8 fun t35 =>
afld 3 t3 fun t36 =>
ald1 t36 w8 fun t37 =>
aidxS 4 t37 (.i 0) fun t38 =>
aldN 4 t38 w8 fun t39 =>
acallS pr 90 [t35, t39] w8 (apn R) fun t40 w9 =>
aldN 2 t2 w9 fun t41 =>
afld 3 t3 fun t42 =>
ald1 t42 w9 fun t43 =>
aidxS 4 t43 (.i 1) fun t44 =>
aldN 4 t44 w9 fun t45 =>
acallS pr 90 [t41, t45] w9 (apn R) fun t46 w10 =>
afld 0 t3 fun t47 =>
ald1 t47 w10 fun t48 =>
aar .eql t48 (.i 4) fun t49 =>
acnd t49 (acallW pr 122 [t40, t46] w10 (apn R) fun t52 w11 =>
aext 0 t52 fun t53 =>
aext 1 t52 fun t54 =>
acallW pr 120 [t53, t54] w11 (apn R) fun t55 w12 =>
R (.ret t55) w12) (acallW pr 123 [t40, t46] w10 (apn R) fun t58 w13 =>
aext 0 t58 fun t59 =>
aext 1 t58 fun t60 =>
acallW pr 120 [t59, t60] w13 (apn R) fun t61 w14 =>
R (.ret t61) w14)) (afld 2 t3 fun t62 =>
ald1 t62 w8 fun t63 =>
R (.ret t63) w8)) fun j8 =>
aar .eql t8 (.i 4) fun t33 =>
acnd t33 (j8 [t33] w2) (aar .eql t8 (.i 5) fun t34 =>
j8 [t34] w2)))
theorem A86_eq : A86 = fun a0 a1 L R => aex pr ⟨[(16, [32])], [(3, [(0, 0), (1, 0), (2, 0), (3, 0), (4, 0), (5, 1), (6, 0), (7, 2)]), (5, [(0, 0), (1, 0), (2, 0), (3, 0), (4, 0), (5, 0), (6, 0), (7, 1), (8, 0), (9, 0), (10, 0), (11, 1), (12, 2)]), (8, [(0, 0), (1, 0), (2, 0), (3, 0), (4, 0), (5, 1), (6, 2)]), (9, [(0, 0), (1, 0), (2, 0), (3, 0), (4, 0), (5, 1), (6, 2)])]⟩ (bodyOf fn86) (aenv0 [a0, a1]) L (apost pr fn86.results.toList R) := by kernel_rfl
theorem s86 {a0 a1 : D} {L : List Bx} {R : AE → List Bx → Prop} (h : A86 a0 a1 L R) : ASpec pr 86 [a0, a1] L R :=
  aspec_of (A := ⟨[(16, [32])], [(3, [(0, 0), (1, 0), (2, 0), (3, 0), (4, 0), (5, 1), (6, 0), (7, 2)]), (5, [(0, 0), (1, 0), (2, 0), (3, 0), (4, 0), (5, 0), (6, 0), (7, 1), (8, 0), (9, 0), (10, 0), (11, 1), (12, 2)]), (8, [(0, 0), (1, 0), (2, 0), (3, 0), (4, 0), (5, 1), (6, 2)]), (9, [(0, 0), (1, 0), (2, 0), (3, 0), (4, 0), (5, 1), (6, 2)])]⟩) (fn := fn86) 2 mixed Tryd.func86 (by kernel_rfl) (by decide) rfl (by kernel_rfl) (by rw [A86_eq] at h; exact h)
noncomputable abbrev fn54 : Func := Tryd.f54
/- (ashlar/eval.world).value -/
def A54 (a0 a1 : D) (L : List Bx) (R : AE → List Bx → Prop) : Prop :=
abxv a0 L fun t2 w1 =>
abxv a1 w1 fun t3 w2 =>
abx [.i 0, .i 0, .b false, .nil] w2 fun t4 w3 =>
afld 0 t3 fun t12 =>
ald1 t12 w3 fun t13 =>
aar .eql t13 (.i 2) fun t15 =>
acnd t15 (aldN 2 t2 w3 fun t16 =>
aldN 4 t3 w3 fun t17 =>
acallW pr 85 [t16, t17, .i 1] w3 (apn R) fun t18 w4 =>
ast 4 t4 t18 w4 fun w5 =>
aldN 4 t4 w5 fun r0 =>
R (.ret r0) w5) (aar .eql t13 (.i 7) fun t20 =>
acnd t20 (aldN 2 t2 w3 fun t21 =>
aldN 4 t3 w3 fun t22 =>
acallW pr 85 [t21, t22, .i 2] w3 (apn R) fun t23 w6 =>
ast 4 t4 t23 w6 fun w7 =>
aldN 4 t4 w7 fun r0 =>
R (.ret r0) w7) (aar .eql t13 (.i 14) fun t25 =>
acnd t25 (aldN 2 t2 w3 fun t26 =>
aldN 4 t3 w3 fun t27 =>
acallW pr 85 [t26, t27, .i 3] w3 (apn R) fun t28 w8 =>
ast 4 t4 t28 w8 fun w9 =>
aldN 4 t4 w9 fun r0 =>
R (.ret r0) w9) (aar .eql t13 (.i 15) fun t30 =>
acnd t30 (aldN 2 t2 w3 fun t31 =>
aldN 4 t3 w3 fun t32 =>
acallW pr 85 [t31, t32, .i 4] w3 (apn R) fun t33 w10 =>
ast 4 t4 t33 w10 fun w11 =>
aldN 4 t4 w11 fun r0 =>
R (.ret r0) w11) (ajn (fun v15 w12 =>
acnd (aix v15 0) (aldN 2 t2 w12 fun t40 =>
aldN 4 t3 w12 fun t41 =>
acallW pr 86 [t40, t41] w12 (apn R) fun t42 w13 =>
abld [.i 0, .i 0, .b false, .nil] [(0, 1, .i 1), (1, 1, t42)] fun t43 =>
ast 4 t4 t43 w13 fun w14 =>
aldN 4 t4 w14 fun r0 =>
R (.ret r0) w14) (aar .eql t13 (.i 8) fun t45 =>
acnd t45 (aldN 2 t2 w12 fun t46 =>
acallW pr 87 [t46, .fn 88 [] []] w12 (apn R) fun t47 w15 =>
ast 4 t4 t47 w15 fun w16 =>
aldN 4 t4 w16 fun r0 =>
R (.ret r0) w16) (aar .eql t13 (.i 9) fun t49 =>
acnd t49 (aldN 2 t2 w12 fun t50 =>
acallW pr 87 [t50, .fn 89 [] []] w12 (apn R) fun t51 w17 =>
ast 4 t4 t51 w17 fun w18 =>
aldN 4 t4 w18 fun r0 =>
R (.ret r0) w18) (aar .eql t13 (.i 10) fun t53 =>
acnd t53 (aldN 2 t2 w12 fun t54 =>
afld 3 t3 fun t55 =>
ald1 t55 w12 fun t56 =>
aidxS 4 t56 (.i 0) fun t57 =>
aldN 4 t57 w12 fun t58 =>
acallS pr 90 [t54, t58] w12 (apn R) fun t59 w19 =>
abx [.i 0] w19 fun t5 w20 =>
ast 1 t5 t59 w20 fun w21 =>
aldN 2 t2 w21 fun t60 =>
acallW pr 87 [t60, .fn 91 [] [t5]] w21 (apn R) fun t62 w22 =>
ast 4 t4 t62 w22 fun w23 =>
aldN 4 t4 w23 fun r0 =>
R (.ret r0) w23) (aar .eql t13 (.i 11) fun t64 =>
acnd t64 (aldN 2 t2 w12 fun t66 =>
aldN 4 t3 w12 fun t67 =>
acallW pr 92 [t66, t67] w12 (apn R) fun t68 w24 =>
aext 0 t68 fun t69 =>
aext 1 t68 fun t70 =>
abx [.nil] w24 fun t6 w25 =>
abx [.nil] w25 fun t7 w26 =>
ast 1 t6 t69 w26 fun w27 =>
ast 1 t7 t70 w27 fun w28 =>
aldN 2 t2 w28 fun t71 =>
acallW pr 87 [t71, .fn 93 [] [t6, t7]] w28 (apn R) fun t73 w29 =>
ast 4 t4 t73 w29 fun w30 =>
aldN 4 t4 w30 fun r0 =>
R (.ret r0) w30) (aar .eql t13 (.i 12) fun t75 =>
acnd t75 (aldN 2 t2 w12 fun t77 =>
aldN 4 t3 w12 fun t78 =>
acallW pr 92 [t77, t78] w12 (apn R) fun t79 w31 =>
aext 0 t79 fun t80 =>
aext 1 t79 fun t81 =>
abx [.nil] w31 fun t8 w32 =>
abx [.nil] w32 fun t9 w33 =>
ast 1 t8 t80 w33 fun w34 =>
ast 1 t9 t81 w34 fun w35 =>
aldN 2 t2 w35 fun t82 =>
acallW pr 87 [t82, .fn 94 [] [t8, t9]] w35 (apn R) fun t84 w36 =>
ast 4 t4 t84 w36 fun w37 =>
aldN 4 t4 w37 fun r0 =>
R (.ret r0) w37) (aar .eql t13 (.i 13) fun t86 =>
acnd t86 (aldN 2 t2 w12 fun t88 =>
aldN 4 t3 w12 fun t89 =>
acallW pr 92 [t88, t89] w12 (apn R) fun t90 w38 =>
aext 0 t90 fun t91 =>
aext 1 t90 fun t92 =>
abx [.nil] w38 fun t10 w39 =>
abx [.nil] w39 fun t11 w40 =>
ast 1 t10 t91 w40 fun w41 =>
ast 1 t11 t92 w41 fun w42 =>
aldN 2 t2 w42 fun t93 =>
acallW pr 87 [t93, .fn 95 [] [t10, t11]] w42 (apn R) fun t95 w43 =>
ast 4 t4 t95 w43 fun w44 =>
aldN 4 t4 w44 fun r0 =>
R (.ret r0) w44) (aldN 2 t2 w12 fun t96 =>
aldN 4 t3 w12 fun t97 =>
acallW pr 96 [t96, t97] w12 (apn R) fun t98 w45 =>
abld [.i 0, .i 0, .b false, .nil] [(0, 1, .i 4), (2, 1, t98)] fun t99 =>
ast 4 t4 t99 w45 fun w46 =>
aldN 4 t4 w46 fun r0 =>
R (.ret r0) w46)))))))) fun j15 =>
aar .eql t13 (.i 1) fun t35 =>
acnd t35 (j15 [t35] w3) (aar .eql t13 (.i 3) fun t36 =>
acnd t36 (j15 [t36] w3) (aar .eql t13 (.i 4) fun t37 =>
acnd t37 (j15 [t37] w3) (aar .eql t13 (.i 5) fun t38 =>
acnd t38 (j15 [t38] w3) (aar .eql t13 (.i 6) fun t39 =>
j15 [t39] w3))))))))
theorem A54_eq : A54 = fun a0 a1 L R => aex pr ⟨[(30, [34])], [(21, [(0, 0), (1, 0), (2, 0), (3, 0), (4, 0), (5, 6), (6, 3), (7, 2)])]⟩ (bodyOf fn54) (aenv0 [a0, a1]) L (apost pr fn54.results.toList R) := by kernel_rfl
theorem s54 {a0 a1 : D} {L : List Bx} {R : AE → List Bx → Prop} (h : A54 a0 a1 L R) : ASpec pr 54 [a0, a1] L R :=
  aspec_of (A := ⟨[(30, [34])], [(21, [(0, 0), (1, 0), (2, 0), (3, 0), (4, 0), (5, 6), (6, 3), (7, 2)])]⟩) (fn := fn54) 2 mixed Tryd.func54 (by kernel_rfl) (by decide) rfl (by kernel_rfl) (by rw [A54_eq] at h; exact h)
noncomputable abbrev fn53 : Func := Tryd.f53
/- ashlar/eval.Eval$1 -/
def A53 (a0 a1 : D) (m : Option D) (L : List Bx) (R : Option D → List Bx → Prop) : Prop :=
aeqI .neq ((recD m)) (.val (.nilIface)) fun t7 =>
acnd t7 (atas 79 (.i 0) ((recD m)) true fun t10 =>
aext 0 t10 fun t11 =>
aext 1 t10 fun t12 =>
anotb t12 fun t14 =>
acnd t14 (apnF ((recD m))) (abld [.i 0, .i 0, .b false, .nil] [] fun t16 =>
ast 4 a0 t16 L fun w1 =>
ast 1 a1 t11 w1 fun w2 =>
R none w2)) (R none L)
theorem A53_eq : A53 = fun a0 a1 m L R => aexR pr ⟨[], []⟩ R m (bodyOf fn53) (aenv0 [a0, a1]) L := by kernel_rfl
theorem s53 {a0 a1 : D} {m : Option D} {L : List Bx} {R : Option D → List Bx → Prop} (h : A53 a0 a1 m L R) : ADef pr 53 [a0, a1] m L R :=
  adef_of (A := ⟨[], []⟩) (fn := fn53) 2 mixed Tryd.func53 (by kernel_rfl) (by decide) rfl rfl (by kernel_rfl) (by rw [A53_eq] at h; exact h)
noncomputable abbrev fn27 : Func := Tryd.f27
def K27 (t4 t5 : D) (R : AE → List Bx → Prop) (m : Option D) (L : List Bx) : Prop :=
ADef pr 53 [t4, t5] m L fun m w => aend R m w (aldN 4 t4 w fun r0 =>
ald1 t5 w fun r1 =>
R (.ret (.tuple [r0, r1])) w)
/- ashlar/eval.Eval -/
def A27 (a0 a1 : D) (L : List Bx) (R : AE → List Bx → Prop) : Prop :=
abxv a0 L fun t2 w1 =>
abxv a1 w1 fun t3 w2 =>
abx [.i 0, .i 0, .b false, .nil] w2 fun t4 w3 =>
abx [.i 0] w3 fun t5 w4 =>
aldN 4 t2 w4 fun t9 =>
acallW pr 23 [t9] w4 (apn R) fun t10 w5 =>
aext 0 t10 fun t11 =>
aext 1 t10 fun t12 =>
aar .neq t12 (.i 0) fun t14 =>
acnd t14 (abld [.i 0, .i 0, .b false, .nil] [] fun t15 =>
ast 4 t4 t15 w5 fun w6 =>
ast 1 t5 t12 w6 fun w7 =>
aldN 4 t4 w7 fun r0 =>
ald1 t5 w7 fun r1 =>
R (.ret (.tuple [r0, r1])) w7) (aldN 2 t3 w5 fun t17 =>
acallW pr 29 [t17] w5 (apn R) fun t18 w8 =>
anotb t18 fun t19 =>
acnd t19 (abld [.i 0, .i 0, .b false, .nil] [] fun t20 =>
ast 4 t4 t20 w8 fun w9 =>
ast 1 t5 (.i 1) w9 fun w10 =>
aldN 4 t4 w10 fun r0 =>
ald1 t5 w10 fun r1 =>
R (.ret (.tuple [r0, r1])) w10) (aldN 2 t3 w8 fun t22 =>
abld [.i 0, .nil] [(0, 2, t22)] fun t23 =>
aldN 4 t2 w8 fun t24 =>
acallW pr 54 [t23, t24] w8 (fun c w => K27 t4 t5 R (some c) w) fun t25 w11 =>
ast 4 t4 t25 w11 fun w12 =>
ast 1 t5 (.i 0) w12 fun w13 =>
K27 t4 t5 R none w13))
theorem A27_eq : A27 = fun a0 a1 L R => aexD pr ⟨[], []⟩ fn27.results.toList R (bodyOf fn27) (aenv0 [a0, a1]) L := by kernel_rfl
theorem s27 {a0 a1 : D} {L : List Bx} {R : AE → List Bx → Prop} (h : A27 a0 a1 L R) : ASpec pr 27 [a0, a1] L R :=
  aspec_ofD (A := ⟨[], []⟩) (fn := fn27) 2 mixed Tryd.func27 (by kernel_rfl) (by decide) rfl (by kernel_rfl) (by rw [A27_eq] at h; exact h)
noncomputable abbrev fn26 : Func := Tryd.f26
/- ashlar/ashlarlaw04.shown -/
def A26 (L : List Bx) (R : AE → List Bx → Prop) : Prop :=
abldS 4 1 3 [.b false, .b false, .b false] [(0, 1, .b true), (1, 1, .b false), (2, 1, .b true)] L fun t13 w1 =>
abld [.i 0, .i 0, .b false, .nil] [(0, 1, .i 2), (3, 1, t13)] fun t14 =>
abld [.s ⟨#[]⟩, .i 0, .i 0, .b false, .nil] [(0, 1, .s ⟨#[97]⟩), (1, 4, t14)] fun t15 =>
abld [.i 0, .i 0, .b false, .nil] [(0, 1, .i 3), (1, 1, .i 1)] fun t16 =>
abld [.s ⟨#[]⟩, .i 0, .i 0, .b false, .nil] [(0, 1, .s ⟨#[110]⟩), (1, 4, t16)] fun t17 =>
abldS 47 5 2 [.s ⟨#[]⟩, .i 0, .i 0, .b false, .nil, .s ⟨#[]⟩, .i 0, .i 0, .b false, .nil] [(0, 5, t15), (5, 5, t17)] w1 fun t18 w2 =>
abld [.i 0, .nil] [(0, 1, .i 3), (1, 1, t18)] fun t19 =>
abx [.i 0, .nil] w2 fun t1 w3 =>
ast 2 t1 t19 w3 fun w4 =>
abld [.i 0, .s ⟨#[]⟩, .i 0, .nil] [(0, 1, .i 7), (1, 1, .s ⟨#[97]⟩)] fun t20 =>
abx [.i 0, .s ⟨#[]⟩, .i 0, .nil] w4 fun t2 w5 =>
ast 4 t2 t20 w5 fun w6 =>
abld [.i 0, .s ⟨#[]⟩, .i 0, .nil] [(0, 1, .i 14), (1, 1, .s ⟨#[110]⟩)] fun t21 =>
abx [.i 0, .s ⟨#[]⟩, .i 0, .nil] w6 fun t3 w7 =>
ast 4 t3 t21 w7 fun w8 =>
aldN 4 t2 w8 fun t22 =>
aldN 4 t3 w8 fun t23 =>
abldS 24 4 1 [.i 0, .s ⟨#[]⟩, .i 0, .nil] [(0, 4, t23)] w8 fun t24 w9 =>
abld [.i 0, .s ⟨#[]⟩, .i 0, .nil] [(0, 1, .i 10), (3, 1, t24)] fun t25 =>
abldS 24 4 2 [.i 0, .s ⟨#[]⟩, .i 0, .nil, .i 0, .s ⟨#[]⟩, .i 0, .nil] [(0, 4, t22), (4, 4, t25)] w9 fun t26 w10 =>
abld [.i 0, .s ⟨#[]⟩, .i 0, .nil] [(0, 1, .i 11), (3, 1, t26)] fun t27 =>
abldS 24 4 1 [.i 0, .s ⟨#[]⟩, .i 0, .nil] [(0, 4, t27)] w10 fun t28 w11 =>
abld [.i 0, .s ⟨#[]⟩, .i 0, .nil] [(0, 1, .i 3), (3, 1, t28)] fun t29 =>
abx [.i 0, .s ⟨#[]⟩, .i 0, .nil] w11 fun t4 w12 =>
ast 4 t4 t29 w12 fun w13 =>
aldN 4 t4 w13 fun t31 =>
aldN 2 t1 w13 fun t32 =>
acallW pr 27 [t31, t32] w13 (apn R) fun t33 w14 =>
aext 0 t33 fun t34 =>
aext 1 t33 fun t35 =>
abx [.i 0, .i 0, .b false, .nil] w14 fun t5 w15 =>
ast 4 t5 t34 w15 fun w16 =>
abld [.i 0, .s ⟨#[]⟩, .i 0, .nil] [(0, 1, .i 2), (1, 1, .s ⟨#[97]⟩)] fun t37 =>
aldN 2 t1 w16 fun t38 =>
acallW pr 27 [t37, t38] w16 (apn R) fun t39 w17 =>
aext 0 t39 fun t40 =>
aext 1 t39 fun t41 =>
abx [.i 0, .i 0, .b false, .nil] w17 fun t7 w18 =>
ast 4 t7 t40 w18 fun w19 =>
aldN 4 t3 w19 fun t43 =>
aldN 4 t2 w19 fun t44 =>
abldS 24 4 2 [.i 0, .s ⟨#[]⟩, .i 0, .nil, .i 0, .s ⟨#[]⟩, .i 0, .nil] [(0, 4, t43), (4, 4, t44)] w19 fun t45 w20 =>
abld [.i 0, .s ⟨#[]⟩, .i 0, .nil] [(0, 1, .i 25), (3, 1, t45)] fun t46 =>
aldN 2 t1 w20 fun t47 =>
acallW pr 27 [t46, t47] w20 (apn R) fun t48 w21 =>
aext 0 t48 fun t49 =>
aext 1 t48 fun t50 =>
abx [.i 0, .i 0, .b false, .nil] w21 fun t9 w22 =>
ast 4 t9 t49 w22 fun w23 =>
aldN 4 t4 w23 fun t52 =>
abld [.i 0, .nil] [] fun t53 =>
acallW pr 27 [t52, t53] w23 (apn R) fun t54 w24 =>
aext 0 t54 fun t55 =>
aext 1 t54 fun t56 =>
abx [.i 0, .i 0, .b false, .nil] w24 fun t11 w25 =>
ast 4 t11 t55 w25 fun w26 =>
afld 0 t5 fun t57 =>
ald1 t57 w26 fun t58 =>
aar .eql t58 (.i 1) fun t59 =>
acnd t59 (afld 1 t5 fun t61 =>
ald1 t61 w26 fun t62 =>
aar .eql t62 (.i 3) fun t63 =>
acnd t63 (aar .eql t35 (.i 0) fun t67 =>
acnd t67 (aar .eql t41 (.i 4) fun t71 =>
acnd t71 (afld 0 t9 fun t74 =>
ald1 t74 w26 fun t75 =>
aar .eql t75 (.i 4) fun t76 =>
acnd t76 (afld 2 t9 fun t79 =>
ald1 t79 w26 fun t80 =>
anotb t80 fun t81 =>
acnd t81 (aar .eql t50 (.i 0) fun t85 =>
acnd t85 (aar .eql t56 (.i 1) fun t89 =>
acnd t89 (aldN 2 t1 w26 fun t92 =>
acallW pr 29 [t92] w26 (apn R) fun t93 w27 =>
R (.ret t93) w27) (R (.ret (.b false)) w26)) (R (.ret (.b false)) w26)) (R (.ret (.b false)) w26)) (R (.ret (.b false)) w26)) (R (.ret (.b false)) w26)) (R (.ret (.b false)) w26)) (R (.ret (.b false)) w26)) (R (.ret (.b false)) w26)
theorem A26_eq : A26 = fun  L R => aex pr ⟨[], []⟩ (bodyOf fn26) (aenv0 []) L (apost pr fn26.results.toList R) := by kernel_rfl
theorem s26 {L : List Bx} {R : AE → List Bx → Prop} (h : A26  L R) : ASpec pr 26 [] L R :=
  aspec_of (A := ⟨[], []⟩) (fn := fn26) 0 mixed Tryd.func26 (by kernel_rfl) (by decide) rfl (by kernel_rfl) (by rw [A26_eq] at h; exact h)
noncomputable abbrev fn6 : Func := Tryd.f6
/- ashlar/ashlarlaw04.EvalBig -/
def A6 (a0 a1 : D) (L : List Bx) (R : AE → List Bx → Prop) : Prop :=
acallW pr 26 [] L (apn R) fun t20 w1 =>
abld [.i 0, .nil] [(0, 1, .i 1)] fun t21 =>
abx [.i 0, .nil] w1 fun t6 w2 =>
ast 2 t6 t21 w2 fun w3 =>
abld [.i 0, .s ⟨#[]⟩, .i 0, .nil] [(0, 1, .i 1), (2, 1, a0)] fun t23 =>
abld [.i 0, .s ⟨#[]⟩, .i 0, .nil] [(0, 1, .i 1), (2, 1, a1)] fun t25 =>
abldS 24 4 2 [.i 0, .s ⟨#[]⟩, .i 0, .nil, .i 0, .s ⟨#[]⟩, .i 0, .nil] [(0, 4, t23), (4, 4, t25)] w3 fun t26 w4 =>
abld [.i 0, .s ⟨#[]⟩, .i 0, .nil] [(0, 1, .i 4), (3, 1, t26)] fun t29 =>
aldN 2 t6 w4 fun t30 =>
acallW pr 27 [t29, t30] w4 (apn R) fun t31 w5 =>
aext 0 t31 fun t32 =>
aext 1 t31 fun t33 =>
abx [.i 0, .i 0, .b false, .nil] w5 fun t8 w6 =>
ast 4 t8 t32 w6 fun w7 =>
abld [.i 0, .s ⟨#[]⟩, .i 0, .nil] [(0, 1, .i 5), (3, 1, t26)] fun t36 =>
aldN 2 t6 w7 fun t37 =>
acallW pr 27 [t36, t37] w7 (apn R) fun t38 w8 =>
aext 0 t38 fun t39 =>
aext 1 t38 fun t40 =>
abx [.i 0, .i 0, .b false, .nil] w8 fun t10 w9 =>
ast 4 t10 t39 w9 fun w10 =>
aslcL 4 t26 (some (.i 1)) none fun t44 =>
abld [.i 0, .s ⟨#[]⟩, .i 0, .nil] [(0, 1, .i 6), (2, 1, a0), (3, 1, t44)] fun t45 =>
aldN 2 t6 w10 fun t46 =>
acallS pr 27 [t45, t46] w10 (fun _ _ => False) fun t47 w11 =>
aext 0 t47 fun t48 =>
aext 1 t47 fun t49 =>
abx [.i 0, .i 0, .b false, .nil] w11 fun t12 w12 =>
ast 4 t12 t48 w12 fun w13 =>
acallW pr 28 [.i 4, a0, a1] w13 (apn R) fun t53 w14 =>
aext 0 t53 fun t54 =>
aext 1 t53 fun t55 =>
acallW pr 28 [.i 5, a0, a1] w14 (apn R) fun t59 w15 =>
aext 0 t59 fun t60 =>
aext 1 t59 fun t61 =>
acallW pr 28 [.i 6, a0, a1] w15 (apn R) fun t65 w16 =>
aext 0 t65 fun t66 =>
aext 1 t65 fun t67 =>
ajn (fun v12 w17 =>
acnd t20 (aar .eql t33 (.i 0) fun t121 =>
aarB .eql t121 t55 fun t123 =>
acnd t123 (aar .eql t40 (.i 0) fun t127 =>
aarB .eql t127 t61 fun t129 =>
acnd t129 (aar .eql t49 (.i 0) fun t133 =>
aarB .eql t133 t67 fun t135 =>
acnd t135 (anotb t55 fun t139 =>
ajn (fun y145 w18 =>
acnd (aix y145 0) (anotb t61 fun t149 =>
ajn (fun y155 w19 =>
acnd (aix y155 0) (anotb t67 fun t159 =>
ajn (fun y165 w20 =>
acnd (aix y165 0) (ajn (fun y172 w21 =>
R (.ret (aix y172 0)) w21) fun j172 =>
acnd t55 (j172 [.b true] w20) (aar .eql t33 (.i 5) fun t171 =>
j172 [t171] w20)) (R (.ret (.b false)) w20)) fun j165 =>
acnd t159 (j165 [.b true] w19) (afld 1 t12 fun t161 =>
ald1 t161 w19 fun t162 =>
aar .eql t162 t66 fun t164 =>
j165 [t164] w19)) (R (.ret (.b false)) w19)) fun j155 =>
acnd t149 (j155 [.b true] w18) (afld 1 t10 fun t151 =>
ald1 t151 w18 fun t152 =>
aar .eql t152 t60 fun t154 =>
j155 [t154] w18)) (R (.ret (.b false)) w18)) fun j145 =>
acnd t139 (j145 [.b true] w17) (afld 1 t8 fun t141 =>
ald1 t141 w17 fun t142 =>
aar .eql t142 t54 fun t144 =>
j145 [t144] w17)) (R (.ret (.b false)) w17)) (R (.ret (.b false)) w17)) (R (.ret (.b false)) w17)) (R (.ret (.b false)) w17)) fun j12 =>
aar .lss a0 (.i 1000000000) fun t69 =>
acnd t69 (aar .gtr a0 (.i (-1000000000)) fun t72 =>
acnd t72 (aar .lss a1 (.i 1000000000) fun t76 =>
acnd t76 (aar .gtr a1 (.i (-1000000000)) fun t80 =>
acnd t80 (afld 1 t8 fun t83 =>
ald1 t83 w16 fun t84 =>
aar .add a0 a1 fun t87 =>
aar .neq t84 t87 fun t88 =>
acnd t88 (ajn (fun y116 w22 =>
acnd (aix y116 0) (R (.ret (.b false)) w22) (j12 [] w22)) fun j116 =>
j116 [.b true] w16) (afld 1 t10 fun t90 =>
ald1 t90 w16 fun t91 =>
aar .sub a0 a1 fun t94 =>
aar .neq t91 t94 fun t95 =>
acnd t95 (ajn (fun y116 w23 =>
acnd (aix y116 0) (R (.ret (.b false)) w23) (j12 [] w23)) fun j116 =>
j116 [.b true] w16) (afld 1 t12 fun t98 =>
ald1 t98 w16 fun t99 =>
aar .mul a0 a1 fun t102 =>
aar .neq t99 t102 fun t103 =>
acnd t103 (ajn (fun y116 w24 =>
acnd (aix y116 0) (R (.ret (.b false)) w24) (j12 [] w24)) fun j116 =>
j116 [.b true] w16) (aar .neq t33 (.i 0) fun t107 =>
acnd t107 (ajn (fun y116 w25 =>
acnd (aix y116 0) (R (.ret (.b false)) w25) (j12 [] w25)) fun j116 =>
j116 [.b true] w16) (aar .neq t40 (.i 0) fun t111 =>
ajn (fun y116 w26 =>
acnd (aix y116 0) (R (.ret (.b false)) w26) (j12 [] w26)) fun j116 =>
acnd t111 (j116 [.b true] w16) (aar .neq t49 (.i 0) fun t115 =>
j116 [t115] w16)))))) (j12 [] w16)) (j12 [] w16)) (j12 [] w16)) (j12 [] w16)
theorem A6_eq : A6 = fun a0 a1 L R => aex pr ⟨[(24, []), (3000116, []), (3000145, []), (3000155, []), (3000165, []), (3000172, [])], [(6, [(0, 0), (1, 0), (2, 0), (3, 0), (4, 0), (5, 0), (6, 0), (7, 0), (8, 0), (9, 3), (10, 2), (11, 2)])]⟩ (bodyOf fn6) (aenv0 [a0, a1]) L (apost pr fn6.results.toList R) := by kernel_rfl
theorem s6 {a0 a1 : D} {L : List Bx} {R : AE → List Bx → Prop} (h : A6 a0 a1 L R) : ASpec pr 6 [a0, a1] L R :=
  aspec_of (A := ⟨[(24, []), (3000116, []), (3000145, []), (3000155, []), (3000165, []), (3000172, [])], [(6, [(0, 0), (1, 0), (2, 0), (3, 0), (4, 0), (5, 0), (6, 0), (7, 0), (8, 0), (9, 3), (10, 2), (11, 2)])]⟩) (fn := fn6) 2 mixed Tryd.func6 (by kernel_rfl) (by decide) rfl (by kernel_rfl) (by rw [A6_eq] at h; exact h)
noncomputable abbrev fn7 : Func := Tryd.f7
/- ashlar/ashlarlaw04.EvalTurned -/
def A7 (a0 a1 a2 a3 : D) (L : List Bx) (R : AE → List Bx → Prop) : Prop :=
abxv a0 L fun t4 w1 =>
abxv a1 w1 fun t5 w2 =>
acallW pr 26 [] w2 (apn R) fun t20 w3 =>
aldN 4 t4 w3 fun t22 =>
acallW pr 23 [t22] w3 (apn R) fun t23 w4 =>
aext 0 t23 fun t24 =>
aext 1 t23 fun t25 =>
ajn (fun v5 w5 =>
aar .and a2 (.i 65535) fun t43 =>
afld 0 t5 fun t44 =>
ald1 t44 w5 fun t45 =>
aar .rem t43 t45 fun t46 =>
aar .and a3 (.i 65535) fun t48 =>
afld 0 t5 fun t49 =>
ald1 t49 w5 fun t50 =>
aar .rem t48 t50 fun t51 =>
afld 0 t5 fun t52 =>
ald1 t52 w5 fun t53 =>
abld [.i 0, .nil] [(0, 1, t53)] fun t54 =>
abx [.i 0, .nil] w5 fun t12 w6 =>
ast 2 t12 t54 w6 fun w7 =>
alp [.i 0] w7 fun v9 w8 k9 =>
afld 1 t5 fun t56 =>
ald1 t56 w8 fun t57 =>
alenL t57 fun t58 =>
aar .lss (aix v9 0) t58 fun t59 =>
acnd t59 (afld 1 t5 fun t62 =>
ald1 t62 w8 fun t63 =>
aidxS 5 t63 (aix v9 0) fun t65 =>
afld 1 t65 fun t66 =>
aldN 4 t66 w8 fun t67 =>
abx [.i 0, .i 0, .b false, .nil] w8 fun t14 w9 =>
ast 4 t14 t67 w9 fun w10 =>
abldS 4 1 0 [] [] w10 fun t68 w11 =>
afld 3 t14 fun t69 =>
ald1 t69 w11 fun t70 =>
aapp 4 1 1 t68 t70 w11 fun t71 w12 =>
afld 3 t14 fun t72 =>
ast 1 t72 t71 w12 fun w13 =>
ajn (fun v17 w14 =>
ajn (fun v22 w15 =>
afld 1 t12 fun t110 =>
ald1 t110 w15 fun t111 =>
afld 1 t5 fun t112 =>
ald1 t112 w15 fun t113 =>
aidxS 5 t113 (aix v9 0) fun t115 =>
afld 0 t115 fun t116 =>
ald1 t116 w15 fun t117 =>
aldN 4 t14 w15 fun t118 =>
abld [.s ⟨#[]⟩, .i 0, .i 0, .b false, .nil] [(0, 1, t117), (1, 4, t118)] fun t119 =>
abldF 5 1 [.s ⟨#[]⟩, .i 0, .i 0, .b false, .nil] [(0, 5, t119)] fun t120 =>
aapp 47 5 64 t111 t120 w15 fun t121 w16 =>
afld 1 t12 fun t122 =>
ast 1 t122 t121 w16 fun w17 =>
aar .add (aix v9 0) (.i 1) fun t61 =>
k9 [t61] w17) fun j22 =>
afld 0 t14 fun t95 =>
ald1 t95 w14 fun t96 =>
aar .eql t96 (.i 3) fun t97 =>
acnd t97 (afld 1 t14 fun t98 =>
ald1 t98 w14 fun t99 =>
aar .eql t99 t46 fun t101 =>
acnd t101 (afld 1 t14 fun t103 =>
ast 1 t103 t51 w14 fun w18 =>
j22 [] w18) (afld 1 t14 fun t104 =>
ald1 t104 w14 fun t105 =>
aar .eql t105 t51 fun t107 =>
acnd t107 (afld 1 t14 fun t109 =>
ast 1 t109 t46 w14 fun w19 =>
j22 [] w19) (j22 [] w14))) (j22 [] w14)) fun j17 =>
afld 0 t14 fun t73 =>
ald1 t73 w13 fun t74 =>
aar .eql t74 (.i 2) fun t75 =>
acnd t75 (afld 3 t14 fun t76 =>
ald1 t76 w13 fun t77 =>
aidxS 1 t77 t46 fun t79 =>
ald1 t79 w13 fun t80 =>
afld 3 t14 fun t81 =>
ald1 t81 w13 fun t82 =>
afld 3 t14 fun t84 =>
ald1 t84 w13 fun t85 =>
aidxS 1 t85 t51 fun t87 =>
ald1 t87 w13 fun t88 =>
aidxS 1 t82 t46 fun t89 =>
ast 1 t89 t88 w13 fun w20 =>
afld 3 t14 fun t90 =>
ald1 t90 w20 fun t91 =>
aidxS 1 t91 t51 fun t94 =>
ast 1 t94 t80 w20 fun w21 =>
j17 [] w21) (j17 [] w13)) (aldN 4 t4 w8 fun t124 =>
aldN 2 t5 w8 fun t125 =>
acallW pr 27 [t124, t125] w8 (apn R) fun t126 w22 =>
aext 0 t126 fun t127 =>
aext 1 t126 fun t128 =>
abx [.i 0, .i 0, .b false, .nil] w22 fun t16 w23 =>
ast 4 t16 t127 w23 fun w24 =>
aldN 4 t4 w24 fun t130 =>
aldN 2 t12 w24 fun t131 =>
acallW pr 27 [t130, t131] w24 (apn R) fun t132 w25 =>
aext 0 t132 fun t133 =>
aext 1 t132 fun t134 =>
abx [.i 0, .i 0, .b false, .nil] w25 fun t18 w26 =>
ast 4 t18 t133 w26 fun w27 =>
acnd t20 (aar .eql t128 t134 fun t139 =>
acnd t139 (aldN 4 t16 w27 fun t142 =>
aldN 4 t18 w27 fun t143 =>
acallW pr 30 [t142, t143] w27 (apn R) fun t144 w28 =>
R (.ret t144) w28) (R (.ret (.b false)) w27)) (R (.ret (.b false)) w27))) fun j5 =>
aar .neq t25 (.i 0) fun t27 =>
acnd t27 (R (.ret t20) w4) (aar .neq t24 (.i 1) fun t30 =>
ajn (fun y34 w29 =>
acnd (aix y34 0) (R (.ret t20) w29) (aldN 2 t5 w29 fun t37 =>
acallW pr 29 [t37] w29 (apn R) fun t38 w30 =>
anotb t38 fun t39 =>
acnd t39 (R (.ret t20) w30) (j5 [] w30))) fun j34 =>
acnd t30 (aar .neq t24 (.i 4) fun t33 =>
j34 [t33] w4) (j34 [.b false] w4))
theorem A7_eq : A7 = fun a0 a1 a2 a3 L R => aex pr ⟨[(10, []), (19, [13]), (34, []), (44, []), (3000034, [])], [(15, [(0, 0), (1, 0), (2, 0), (3, 0), (4, 0), (5, 0), (6, 0), (7, 0), (8, 0), (9, 2)]), (22, [(0, 0), (1, 0), (2, 0), (3, 0), (4, 0), (5, 0), (6, 0), (7, 0), (8, 0), (9, 0), (10, 0), (11, 2), (12, 0), (13, 2)])]⟩ (bodyOf fn7) (aenv0 [a0, a1, a2, a3]) L (apost pr fn7.results.toList R) := by kernel_rfl
theorem s7 {a0 a1 a2 a3 : D} {L : List Bx} {R : AE → List Bx → Prop} (h : A7 a0 a1 a2 a3 L R) : ASpec pr 7 [a0, a1, a2, a3] L R :=
  aspec_of (A := ⟨[(10, []), (19, [13]), (34, []), (44, []), (3000034, [])], [(15, [(0, 0), (1, 0), (2, 0), (3, 0), (4, 0), (5, 0), (6, 0), (7, 0), (8, 0), (9, 2)]), (22, [(0, 0), (1, 0), (2, 0), (3, 0), (4, 0), (5, 0), (6, 0), (7, 0), (8, 0), (9, 0), (10, 0), (11, 2), (12, 0), (13, 2)])]⟩) (fn := fn7) 4 mixed Tryd.func7 (by kernel_rfl) (by decide) rfl (by kernel_rfl) (by rw [A7_eq] at h; exact h)
noncomputable abbrev fn8 : Func := Tryd.f8
/- ashlar/ashlarlaw04.EvalWith -/
def A8 (a0 a1 a2 a3 a4 : D) (L : List Bx) (R : AE → List Bx → Prop) : Prop :=
abxv a0 L fun t5 w1 =>
abxv a2 w1 fun t7 w2 =>
acallW pr 26 [] w2 (apn R) fun t23 w3 =>
aldN 2 t5 w3 fun t24 =>
acallW pr 29 [t24] w3 (apn R) fun t25 w4 =>
anotb t25 fun t26 =>
acnd t26 (R (.ret t23) w4) (aldN 2 t5 w4 fun t28 =>
aldN 4 t7 w4 fun t30 =>
acallW pr 31 [t28, a1, t30] w4 (apn R) fun t31 w5 =>
abx [.i 0, .nil] w5 fun t12 w6 =>
ast 2 t12 t31 w6 fun w7 =>
aldN 2 t12 w7 fun t33 =>
afld 0 t7 fun t35 =>
ald1 t35 w7 fun t36 =>
acallW pr 32 [t33, a1, t36] w7 (apn R) fun t37 w8 =>
aext 0 t37 fun t38 =>
aext 1 t37 fun t39 =>
abx [.i 0, .i 0, .b false, .nil] w8 fun t13 w9 =>
ast 4 t13 t38 w9 fun w10 =>
ajn (fun v8 w11 =>
ajn (fun v13 w12 =>
aldN 2 t5 w12 fun t88 =>
afld 0 t7 fun t90 =>
ald1 t90 w12 fun t91 =>
acallW pr 32 [t88, a1, t91] w12 (apn R) fun t92 w13 =>
aext 0 t92 fun t93 =>
aext 1 t92 fun t94 =>
abx [.i 0, .i 0, .b false, .nil] w13 fun t19 w14 =>
ast 4 t19 t93 w14 fun w15 =>
afld 1 t5 fun t95 =>
ald1 t95 w15 fun t96 =>
alenL t96 fun t97 =>
ajn (fun v17 w16 =>
afld 1 t12 fun t102 =>
ald1 t102 w16 fun t103 =>
alenL t103 fun t104 =>
aar .neq t104 (aix v17 0) fun t106 =>
acnd t106 (R (.ret (.b false)) w16) (ajn (fun v20 w17 =>
acnd (aix v20 0) (afld 1 t5 fun t137 =>
ald1 t137 w17 fun t138 =>
aidxS 5 t138 (.i 0) fun t139 =>
afld 1 t139 fun t140 =>
afld 3 t140 fun t141 =>
ald1 t141 w17 fun t142 =>
aidxS 1 t142 (.i 0) fun t143 =>
ald1 t143 w17 fun t144 =>
afld 1 t12 fun t145 =>
ald1 t145 w17 fun t146 =>
aidxS 5 t146 (.i 0) fun t147 =>
afld 1 t147 fun t148 =>
afld 3 t148 fun t149 =>
ald1 t149 w17 fun t150 =>
afld 1 t12 fun t151 =>
ald1 t151 w17 fun t152 =>
aidxS 5 t152 (.i 0) fun t153 =>
afld 1 t153 fun t154 =>
afld 3 t154 fun t155 =>
ald1 t155 w17 fun t156 =>
aidxS 1 t156 (.i 0) fun t157 =>
ald1 t157 w17 fun t158 =>
anotb t158 fun t159 =>
aidxS 1 t150 (.i 0) fun t160 =>
ast 1 t160 t159 w17 fun w18 =>
acnd t23 (afld 1 t5 fun t163 =>
ald1 t163 w18 fun t164 =>
aidxS 5 t164 (.i 0) fun t165 =>
afld 1 t165 fun t166 =>
afld 3 t166 fun t167 =>
ald1 t167 w18 fun t168 =>
aidxS 1 t168 (.i 0) fun t169 =>
ald1 t169 w18 fun t170 =>
aarB .eql t170 t144 fun t172 =>
R (.ret t172) w18) (R (.ret (.b false)) w18)) (R (.ret t23) w17)) fun j20 =>
afld 1 t12 fun t107 =>
ald1 t107 w16 fun t108 =>
alenL t108 fun t109 =>
aar .gtr t109 (.i 0) fun t110 =>
acnd t110 (afld 1 t12 fun t112 =>
ald1 t112 w16 fun t113 =>
aidxS 5 t113 (.i 0) fun t114 =>
afld 1 t114 fun t115 =>
afld 3 t115 fun t116 =>
ald1 t116 w16 fun t117 =>
alenL t117 fun t118 =>
aar .gtr t118 (.i 0) fun t119 =>
acnd t119 (afld 1 t5 fun t122 =>
ald1 t122 w16 fun t123 =>
alenL t123 fun t124 =>
aar .gtr t124 (.i 0) fun t125 =>
acnd t125 (afld 1 t5 fun t128 =>
ald1 t128 w16 fun t129 =>
aidxS 5 t129 (.i 0) fun t130 =>
afld 1 t130 fun t131 =>
afld 3 t131 fun t132 =>
ald1 t132 w16 fun t133 =>
alenL t133 fun t134 =>
aar .gtr t134 (.i 0) fun t135 =>
j20 [t135] w16) (j20 [.b false] w16)) (j20 [.b false] w16)) (j20 [.b false] w16))) fun j17 =>
anotb t94 fun t99 =>
acnd t99 (aar .add t97 (.i 1) fun t101 =>
j17 [t101] w15) (j17 [t97] w15)) fun j13 =>
ajn (fun v9 w19 =>
acnd (aix v9 0) (aldN 2 t12 w19 fun t65 =>
acallW pr 32 [t65, a3, a4] w19 (apn R) fun t68 w20 =>
aext 0 t68 fun t69 =>
aext 1 t68 fun t70 =>
abx [.i 0, .i 0, .b false, .nil] w20 fun t15 w21 =>
ast 4 t15 t69 w21 fun w22 =>
aldN 2 t5 w22 fun t72 =>
acallW pr 32 [t72, a3, a4] w22 (apn R) fun t75 w23 =>
aext 0 t75 fun t76 =>
aext 1 t75 fun t77 =>
abx [.i 0, .i 0, .b false, .nil] w23 fun t17 w24 =>
ast 4 t17 t76 w24 fun w25 =>
aarB .neq t70 t77 fun t80 =>
acnd t80 (R (.ret (.b false)) w25) (aldN 4 t15 w25 fun t82 =>
aldN 4 t17 w25 fun t83 =>
acallW pr 30 [t82, t83] w25 (apn R) fun t84 w26 =>
anotb t84 fun t85 =>
acnd t85 (R (.ret (.b false)) w26) (j13 [] w26))) (j13 [] w19)) fun j9 =>
aar .neq a3 a1 fun t57 =>
acnd t57 (j9 [.b true] w11) (afld 0 t7 fun t60 =>
ald1 t60 w11 fun t61 =>
aar .neq a4 t61 fun t62 =>
j9 [t62] w11)) fun j8 =>
anotb t39 fun t41 =>
acnd t41 (R (.ret (.b false)) w10) (aldN 4 t13 w10 fun t43 =>
aldN 4 t7 w10 fun t44 =>
acallW pr 30 [t43, t44] w10 (apn R) fun t45 w27 =>
anotb t45 fun t46 =>
acnd t46 (R (.ret (.b false)) w27) (afld 0 t12 fun t49 =>
ald1 t49 w27 fun t50 =>
afld 0 t5 fun t51 =>
ald1 t51 w27 fun t52 =>
aar .neq t50 t52 fun t53 =>
acnd t53 (R (.ret (.b false)) w27) (j8 [] w27))))
theorem A8_eq : A8 = fun a0 a1 a2 a3 a4 L R => aex pr ⟨[(16, []), (18, [63]), (26, []), (34, [21]), (40, [136])], [(21, [(0, 0), (1, 0), (2, 0), (3, 0), (4, 0), (5, 0), (6, 0), (7, 0), (8, 0), (9, 0), (10, 0), (11, 0), (12, 0), (13, 0), (14, 0), (15, 0), (16, 2)])]⟩ (bodyOf fn8) (aenv0 [a0, a1, a2, a3, a4]) L (apost pr fn8.results.toList R) := by kernel_rfl
theorem s8 {a0 a1 a2 a3 a4 : D} {L : List Bx} {R : AE → List Bx → Prop} (h : A8 a0 a1 a2 a3 a4 L R) : ASpec pr 8 [a0, a1, a2, a3, a4] L R :=
  aspec_of (A := ⟨[(16, []), (18, [63]), (26, []), (34, [21]), (40, [136])], [(21, [(0, 0), (1, 0), (2, 0), (3, 0), (4, 0), (5, 0), (6, 0), (7, 0), (8, 0), (9, 0), (10, 0), (11, 0), (12, 0), (13, 0), (14, 0), (15, 0), (16, 2)])]⟩) (fn := fn8) 5 mixed Tryd.func8 (by kernel_rfl) (by decide) rfl (by kernel_rfl) (by rw [A8_eq] at h; exact h)
noncomputable abbrev fn9 : Func := Tryd.f9
/- ashlar/ashlarlaw04.EvalLaws -/
def A9 (a0 a1 a2 : D) (L : List Bx) (R : AE → List Bx → Prop) : Prop :=
abxv a0 L fun t3 w1 =>
abxv a1 w1 fun t4 w2 =>
abxv a2 w2 fun t5 w3 =>
acallW pr 26 [] w3 (apn R) fun t26 w4 =>
aldN 4 t3 w4 fun t28 =>
acallW pr 23 [t28] w4 (apn R) fun t29 w5 =>
aext 0 t29 fun t30 =>
aext 1 t29 fun t31 =>
aldN 4 t4 w5 fun t33 =>
acallW pr 23 [t33] w5 (apn R) fun t34 w6 =>
aext 0 t34 fun t35 =>
aext 1 t34 fun t36 =>
ajn (fun v6 w7 =>
aldN 4 t3 w7 fun t75 =>
aldN 2 t5 w7 fun t76 =>
acallW pr 27 [t75, t76] w7 (apn R) fun t77 w8 =>
aext 0 t77 fun t78 =>
aext 1 t77 fun t79 =>
abx [.i 0, .i 0, .b false, .nil] w8 fun t12 w9 =>
ast 4 t12 t78 w9 fun w10 =>
aldN 4 t4 w10 fun t81 =>
aldN 2 t5 w10 fun t82 =>
acallW pr 27 [t81, t82] w10 (apn R) fun t83 w11 =>
aext 0 t83 fun t84 =>
aext 1 t83 fun t85 =>
abx [.i 0, .i 0, .b false, .nil] w11 fun t14 w12 =>
ast 4 t14 t84 w12 fun w13 =>
ajn (fun v10 w14 =>
aldN 4 t3 w14 fun t93 =>
aldN 4 t4 w14 fun t94 =>
abldS 24 4 2 [.i 0, .s ⟨#[]⟩, .i 0, .nil, .i 0, .s ⟨#[]⟩, .i 0, .nil] [(0, 4, t93), (4, 4, t94)] w14 fun t95 w15 =>
abld [.i 0, .s ⟨#[]⟩, .i 0, .nil] [(0, 1, .i 16)] fun t96 =>
abx [.i 0, .s ⟨#[]⟩, .i 0, .nil] w15 fun t17 w16 =>
ast 4 t17 t96 w16 fun w17 =>
ajn (fun v27 w18 =>
aldN 4 t17 w18 fun t173 =>
aldN 2 t5 w18 fun t174 =>
acallW pr 27 [t173, t174] w18 (apn R) fun t175 w19 =>
aext 0 t175 fun t176 =>
aext 1 t175 fun t177 =>
abx [.i 0, .i 0, .b false, .nil] w19 fun t24 w20 =>
ast 4 t24 t176 w20 fun w21 =>
acnd t26 (aar .eql t177 (.i 0) fun t181 =>
acnd t181 (afld 2 t24 fun t184 =>
ald1 t184 w21 fun t185 =>
acnd t185 (aldN 4 t3 w21 fun t188 =>
aldN 4 t3 w21 fun t189 =>
acallW pr 20 [t188, t189] w21 (apn R) fun t190 w22 =>
R (.ret t190) w22) (R (.ret (.b false)) w21)) (R (.ret (.b false)) w21)) (R (.ret (.b false)) w21)) fun j27 =>
aar .eql t30 (.i 2) fun t99 =>
acnd t99 (abld [.i 0, .s ⟨#[]⟩, .i 0, .nil] [(0, 1, .i 11), (3, 1, t95)] fun t101 =>
abldS 24 4 1 [.i 0, .s ⟨#[]⟩, .i 0, .nil] [(0, 4, t101)] w17 fun t102 w23 =>
abld [.i 0, .s ⟨#[]⟩, .i 0, .nil] [(0, 1, .i 3), (3, 1, t102)] fun t103 =>
abld [.i 0, .s ⟨#[]⟩, .i 0, .nil] [(0, 1, .i 12), (3, 1, t95)] fun t105 =>
abldS 24 4 1 [.i 0, .s ⟨#[]⟩, .i 0, .nil] [(0, 4, t105)] w23 fun t106 w24 =>
abld [.i 0, .s ⟨#[]⟩, .i 0, .nil] [(0, 1, .i 3), (3, 1, t106)] fun t107 =>
abldS 24 4 2 [.i 0, .s ⟨#[]⟩, .i 0, .nil, .i 0, .s ⟨#[]⟩, .i 0, .nil] [(0, 4, t103), (4, 4, t107)] w24 fun t108 w25 =>
abld [.i 0, .s ⟨#[]⟩, .i 0, .nil] [(0, 1, .i 4), (3, 1, t108)] fun t109 =>
abx [.i 0, .s ⟨#[]⟩, .i 0, .nil] w25 fun t18 w26 =>
ast 4 t18 t109 w26 fun w27 =>
aldN 4 t3 w27 fun t110 =>
abldS 24 4 1 [.i 0, .s ⟨#[]⟩, .i 0, .nil] [(0, 4, t110)] w27 fun t111 w28 =>
abld [.i 0, .s ⟨#[]⟩, .i 0, .nil] [(0, 1, .i 3), (3, 1, t111)] fun t112 =>
aldN 4 t4 w28 fun t113 =>
abldS 24 4 1 [.i 0, .s ⟨#[]⟩, .i 0, .nil] [(0, 4, t113)] w28 fun t114 w29 =>
abld [.i 0, .s ⟨#[]⟩, .i 0, .nil] [(0, 1, .i 3), (3, 1, t114)] fun t115 =>
abldS 24 4 2 [.i 0, .s ⟨#[]⟩, .i 0, .nil, .i 0, .s ⟨#[]⟩, .i 0, .nil] [(0, 4, t112), (4, 4, t115)] w29 fun t116 w30 =>
abld [.i 0, .s ⟨#[]⟩, .i 0, .nil] [(0, 1, .i 4), (3, 1, t116)] fun t117 =>
abx [.i 0, .s ⟨#[]⟩, .i 0, .nil] w30 fun t19 w31 =>
ast 4 t19 t117 w31 fun w32 =>
aldN 4 t18 w32 fun t118 =>
aldN 4 t19 w32 fun t119 =>
abldS 24 4 2 [.i 0, .s ⟨#[]⟩, .i 0, .nil, .i 0, .s ⟨#[]⟩, .i 0, .nil] [(0, 4, t118), (4, 4, t119)] w32 fun t120 w33 =>
abld [.i 0, .s ⟨#[]⟩, .i 0, .nil] [(0, 1, .i 24), (3, 1, t120)] fun t121 =>
ast 4 t17 t121 w33 fun w34 =>
j27 [] w34) (aar .eql t30 (.i 4) fun t123 =>
acnd t123 (aldN 4 t3 w17 fun t124 =>
abldS 24 4 1 [.i 0, .s ⟨#[]⟩, .i 0, .nil] [(0, 4, t124)] w17 fun t125 w35 =>
abld [.i 0, .s ⟨#[]⟩, .i 0, .nil] [(0, 1, .i 18), (3, 1, t125)] fun t126 =>
aldN 4 t4 w35 fun t127 =>
abldS 24 4 2 [.i 0, .s ⟨#[]⟩, .i 0, .nil, .i 0, .s ⟨#[]⟩, .i 0, .nil] [(0, 4, t126), (4, 4, t127)] w35 fun t128 w36 =>
abld [.i 0, .s ⟨#[]⟩, .i 0, .nil] [(0, 1, .i 20), (3, 1, t128)] fun t129 =>
abx [.i 0, .s ⟨#[]⟩, .i 0, .nil] w36 fun t20 w37 =>
ast 4 t20 t129 w37 fun w38 =>
abld [.i 0, .s ⟨#[]⟩, .i 0, .nil] [(0, 1, .i 21), (3, 1, t95)] fun t131 =>
abx [.i 0, .s ⟨#[]⟩, .i 0, .nil] w38 fun t21 w39 =>
ast 4 t21 t131 w39 fun w40 =>
aldN 4 t20 w40 fun t132 =>
aldN 4 t21 w40 fun t133 =>
abldS 24 4 2 [.i 0, .s ⟨#[]⟩, .i 0, .nil, .i 0, .s ⟨#[]⟩, .i 0, .nil] [(0, 4, t132), (4, 4, t133)] w40 fun t134 w41 =>
abld [.i 0, .s ⟨#[]⟩, .i 0, .nil] [(0, 1, .i 21), (3, 1, t134)] fun t135 =>
aldN 4 t21 w41 fun t136 =>
aldN 4 t20 w41 fun t137 =>
abldS 24 4 2 [.i 0, .s ⟨#[]⟩, .i 0, .nil, .i 0, .s ⟨#[]⟩, .i 0, .nil] [(0, 4, t136), (4, 4, t137)] w41 fun t138 w42 =>
abld [.i 0, .s ⟨#[]⟩, .i 0, .nil] [(0, 1, .i 21), (3, 1, t138)] fun t139 =>
abldS 24 4 2 [.i 0, .s ⟨#[]⟩, .i 0, .nil, .i 0, .s ⟨#[]⟩, .i 0, .nil] [(0, 4, t135), (4, 4, t139)] w42 fun t140 w43 =>
abld [.i 0, .s ⟨#[]⟩, .i 0, .nil] [(0, 1, .i 19), (3, 1, t140)] fun t141 =>
ast 4 t17 t141 w43 fun w44 =>
j27 [] w44) (aar .eql t30 (.i 1) fun t143 =>
acnd t143 (abld [.i 0, .s ⟨#[]⟩, .i 0, .nil] [(0, 1, .i 22), (3, 1, t95)] fun t145 =>
aldN 4 t4 w17 fun t146 =>
aldN 4 t3 w17 fun t147 =>
abldS 24 4 2 [.i 0, .s ⟨#[]⟩, .i 0, .nil, .i 0, .s ⟨#[]⟩, .i 0, .nil] [(0, 4, t146), (4, 4, t147)] w17 fun t148 w45 =>
abld [.i 0, .s ⟨#[]⟩, .i 0, .nil] [(0, 1, .i 23), (3, 1, t148)] fun t149 =>
abldS 24 4 2 [.i 0, .s ⟨#[]⟩, .i 0, .nil, .i 0, .s ⟨#[]⟩, .i 0, .nil] [(0, 4, t145), (4, 4, t149)] w45 fun t150 w46 =>
abld [.i 0, .s ⟨#[]⟩, .i 0, .nil] [(0, 1, .i 20), (3, 1, t150)] fun t151 =>
ast 4 t17 t151 w46 fun w47 =>
j27 [] w47) (aar .eql t30 (.i 3) fun t153 =>
acnd t153 (abld [.i 0, .s ⟨#[]⟩, .i 0, .nil] [(0, 1, .i 28), (3, 1, t95)] fun t155 =>
abx [.i 0, .s ⟨#[]⟩, .i 0, .nil] w17 fun t22 w48 =>
ast 4 t22 t155 w48 fun w49 =>
aldN 4 t3 w49 fun t156 =>
aldN 4 t4 w49 fun t157 =>
abldS 24 4 1 [.i 0, .s ⟨#[]⟩, .i 0, .nil] [(0, 4, t157)] w49 fun t158 w50 =>
abld [.i 0, .s ⟨#[]⟩, .i 0, .nil] [(0, 1, .i 10), (3, 1, t158)] fun t159 =>
abldS 24 4 2 [.i 0, .s ⟨#[]⟩, .i 0, .nil, .i 0, .s ⟨#[]⟩, .i 0, .nil] [(0, 4, t156), (4, 4, t159)] w50 fun t160 w51 =>
abld [.i 0, .s ⟨#[]⟩, .i 0, .nil] [(0, 1, .i 25), (3, 1, t160)] fun t161 =>
abx [.i 0, .s ⟨#[]⟩, .i 0, .nil] w51 fun t23 w52 =>
ast 4 t23 t161 w52 fun w53 =>
aldN 4 t22 w53 fun t162 =>
aldN 4 t23 w53 fun t163 =>
abldS 24 4 2 [.i 0, .s ⟨#[]⟩, .i 0, .nil, .i 0, .s ⟨#[]⟩, .i 0, .nil] [(0, 4, t162), (4, 4, t163)] w53 fun t164 w54 =>
abld [.i 0, .s ⟨#[]⟩, .i 0, .nil] [(0, 1, .i 21), (3, 1, t164)] fun t165 =>
aldN 4 t23 w54 fun t166 =>
aldN 4 t22 w54 fun t167 =>
abldS 24 4 2 [.i 0, .s ⟨#[]⟩, .i 0, .nil, .i 0, .s ⟨#[]⟩, .i 0, .nil] [(0, 4, t166), (4, 4, t167)] w54 fun t168 w55 =>
abld [.i 0, .s ⟨#[]⟩, .i 0, .nil] [(0, 1, .i 21), (3, 1, t168)] fun t169 =>
abldS 24 4 2 [.i 0, .s ⟨#[]⟩, .i 0, .nil, .i 0, .s ⟨#[]⟩, .i 0, .nil] [(0, 4, t165), (4, 4, t169)] w55 fun t170 w56 =>
abld [.i 0, .s ⟨#[]⟩, .i 0, .nil] [(0, 1, .i 19), (3, 1, t170)] fun t171 =>
ast 4 t17 t171 w56 fun w57 =>
j27 [] w57) (j27 [] w17))))) fun j10 =>
aar .neq t79 (.i 0) fun t87 =>
acnd t87 (R (.ret t26) w13) (aar .neq t85 (.i 0) fun t90 =>
acnd t90 (R (.ret t26) w13) (j10 [] w13))) fun j6 =>
aar .neq t31 (.i 0) fun t38 =>
acnd t38 (R (.ret t26) w6) (aar .neq t36 (.i 0) fun t41 =>
acnd t41 (R (.ret t26) w6) (aar .neq t30 t35 fun t46 =>
acnd t46 (R (.ret t26) w6) (aldN 2 t5 w6 fun t49 =>
acallW pr 29 [t49] w6 (apn R) fun t50 w58 =>
anotb t50 fun t51 =>
acnd t51 (R (.ret t26) w58) (aldN 4 t3 w58 fun t54 =>
acallW pr 25 [t54] w58 (apn R) fun t55 w59 =>
aar .gtr t55 (.i 200) fun t56 =>
acnd t56 (R (.ret t26) w59) (aldN 4 t4 w59 fun t59 =>
acallW pr 25 [t59] w59 (apn R) fun t60 w60 =>
aar .gtr t60 (.i 200) fun t61 =>
acnd t61 (R (.ret t26) w60) (aldN 4 t3 w60 fun t64 =>
acallW pr 24 [t64] w60 (apn R) fun t65 w61 =>
aar .gtr t65 (.i 80) fun t66 =>
acnd t66 (R (.ret t26) w61) (aldN 4 t4 w61 fun t69 =>
acallW pr 24 [t69] w61 (apn R) fun t70 w62 =>
aar .gtr t70 (.i 80) fun t71 =>
acnd t71 (R (.ret t26) w62) (j6 [] w62))))))))
theorem A9_eq : A9 = fun a0 a1 a2 L R => aex pr ⟨[(12, []), (20, []), (54, [])], []⟩ (bodyOf fn9) (aenv0 [a0, a1, a2]) L (apost pr fn9.results.toList R) := by kernel_rfl
theorem s9 {a0 a1 a2 : D} {L : List Bx} {R : AE → List Bx → Prop} (h : A9 a0 a1 a2 L R) : ASpec pr 9 [a0, a1, a2] L R :=
  aspec_of (A := ⟨[(12, []), (20, []), (54, [])], []⟩) (fn := fn9) 3 mixed Tryd.func9 (by kernel_rfl) (by decide) rfl (by kernel_rfl) (by rw [A9_eq] at h; exact h)
noncomputable abbrev fn10 : Func := Tryd.f10
/- ashlar/ashlarlaw06.NormValues -/
def A10 (a0 a1 : D) (L : List Bx) (R : AE → List Bx → Prop) : Prop :=
abxv a0 L fun t2 w1 =>
abxv a1 w1 fun t3 w2 =>
acallW pr 17 [] w2 (apn R) fun t12 w3 =>
aldN 4 t2 w3 fun t14 =>
acallW pr 18 [t14] w3 (apn R) fun t15 w4 =>
aext 0 t15 fun t16 =>
aext 1 t15 fun t17 =>
abx [.i 0, .s ⟨#[]⟩, .i 0, .nil] w4 fun t6 w5 =>
ast 4 t6 t16 w5 fun w6 =>
ajn (fun v5 w7 =>
aldN 4 t2 w7 fun t27 =>
aldN 2 t3 w7 fun t28 =>
acallW pr 27 [t27, t28] w7 (apn R) fun t29 w8 =>
aext 0 t29 fun t30 =>
aext 1 t29 fun t31 =>
abx [.i 0, .i 0, .b false, .nil] w8 fun t8 w9 =>
ast 4 t8 t30 w9 fun w10 =>
aldN 4 t6 w10 fun t33 =>
aldN 2 t3 w10 fun t34 =>
acallW pr 27 [t33, t34] w10 (apn R) fun t35 w11 =>
aext 0 t35 fun t36 =>
aext 1 t35 fun t37 =>
abx [.i 0, .i 0, .b false, .nil] w11 fun t10 w12 =>
ast 4 t10 t36 w12 fun w13 =>
acnd t12 (aar .eql t31 (.i 0) fun t41 =>
aar .eql t37 (.i 0) fun t43 =>
aarB .eql t41 t43 fun t44 =>
acnd t44 (afld 2 t8 fun t47 =>
ald1 t47 w13 fun t48 =>
afld 2 t10 fun t49 =>
ald1 t49 w13 fun t50 =>
aarB .eql t48 t50 fun t51 =>
acnd t51 (aar .neq t31 (.i 0) fun t55 =>
ajn (fun y65 w14 =>
R (.ret (aix y65 0)) w14) fun j65 =>
acnd t55 (j65 [.b true] w13) (afld 0 t8 fun t57 =>
ald1 t57 w13 fun t58 =>
aar .eql t58 (.i 4) fun t59 =>
ajn (fun y64 w15 =>
j65 [aix y64 0] w15) fun j64 =>
acnd t59 (afld 0 t10 fun t61 =>
ald1 t61 w13 fun t62 =>
aar .eql t62 (.i 4) fun t63 =>
j64 [t63] w13) (j64 [.b false] w13))) (R (.ret (.b false)) w13)) (R (.ret (.b false)) w13)) (R (.ret (.b false)) w13)) fun j5 =>
aar .neq t17 (.i 0) fun t19 =>
acnd t19 (R (.ret t12) w6) (aldN 2 t3 w6 fun t21 =>
acallW pr 29 [t21] w6 (apn R) fun t22 w16 =>
anotb t22 fun t23 =>
acnd t23 (R (.ret t12) w16) (j5 [] w16))
theorem A10_eq : A10 = fun a0 a1 L R => aex pr ⟨[(10, []), (3000064, []), (3000065, [])], []⟩ (bodyOf fn10) (aenv0 [a0, a1]) L (apost pr fn10.results.toList R) := by kernel_rfl
theorem s10 {a0 a1 : D} {L : List Bx} {R : AE → List Bx → Prop} (h : A10 a0 a1 L R) : ASpec pr 10 [a0, a1] L R :=
  aspec_of (A := ⟨[(10, []), (3000064, []), (3000065, [])], []⟩) (fn := fn10) 2 mixed Tryd.func10 (by kernel_rfl) (by decide) rfl (by kernel_rfl) (by rw [A10_eq] at h; exact h)
end Go.Proofs.YtlonmopppgadgaaDoor
