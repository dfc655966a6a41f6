/- What must hold ahead of a call, function by function: printed by a program. -/
import Derived.Test.YtdalobojhfafbaaGreatDoorW1
import Derived.KernelRfl
set_option maxRecDepth 100000
set_option linter.unusedVariables false
namespace Go.Proofs.YtdalobojhfafbaaGreatDoor
open Go Go.V
noncomputable abbrev fn209 : Func := Tryz.f209
def A209 (a0 a1 : D) (L : List Bx) (R : AE → List Bx → Prop) : Prop :=
aar .and a0 (.val (.int .u64 4294967295)) fun t15 =>
aar .shr a0 (.val (.int .u64 32)) fun t17 =>
aar .and a1 (.val (.int .u64 4294967295)) fun t19 =>
aar .shr a1 (.val (.int .u64 32)) fun t21 =>
aar .mul t15 t19 fun t24 =>
aar .mul t17 t19 fun t27 =>
aar .shr t24 (.val (.int .u64 32)) fun t29 =>
aar .add t27 t29 fun t30 =>
aar .and t30 (.val (.int .u64 4294967295)) fun t32 =>
aar .shr t30 (.val (.int .u64 32)) fun t34 =>
aar .mul t15 t21 fun t38 =>
aar .add t32 t38 fun t39 =>
aar .mul t17 t21 fun t42 =>
aar .add t42 t34 fun t44 =>
aar .shr t39 (.val (.int .u64 32)) fun t46 =>
aar .add t44 t46 fun t47 =>
aar .mul a0 a1 fun t50 =>
R (.ret (.tuple [t47, t50])) L
theorem A209_eq : A209 = fun a0 a1 L R => aex pr ⟨[], []⟩ (bodyOf fn209) (aenv0 [a0, a1]) L (apost pr fn209.results.toList R) := by kernel_rfl
theorem s209 {a0 a1 : D} {L : List Bx} {R : AE → List Bx → Prop} (h : A209 a0 a1 L R) : ASpec pr 209 [a0, a1] L R :=
  aspec_of (A := ⟨[], []⟩) (fn := fn209) 2 mixed Tryz.func209 (by kernel_rfl) (by decide) rfl (by kernel_rfl) (by rw [A209_eq] at h; exact h)
noncomputable abbrev fn210 : Func := Tryz.f210
def A210 (a0 : D) (L : List Bx) (R : AE → List Bx → Prop) : Prop :=
aar .lss a0 (.i 0) fun t4 =>
acnd t4 (acvI .u64 a0 fun t6 =>
aneg t6 fun t7 =>
R (.ret t7) L) (acvI .u64 a0 fun t9 =>
R (.ret t9) L)
theorem A210_eq : A210 = fun a0 L R => aex pr ⟨[], []⟩ (bodyOf fn210) (aenv0 [a0]) L (apost pr fn210.results.toList R) := by kernel_rfl
theorem s210 {a0 : D} {L : List Bx} {R : AE → List Bx → Prop} (h : A210 a0 L R) : ASpec pr 210 [a0] L R :=
  aspec_of (A := ⟨[], []⟩) (fn := fn210) 1 mixed Tryz.func210 (by kernel_rfl) (by decide) rfl (by kernel_rfl) (by rw [A210_eq] at h; exact h)
noncomputable abbrev fn212 : Func := Tryz.f212
def A212 (a0 a1 : D) (L : List Bx) (R : AE → List Bx → Prop) : Prop :=
abxv a0 L fun t2 w1 =>
abxv a1 w1 fun t3 w2 =>
afld 1 t2 fun t5 =>
ald1 t5 w2 fun t6 =>
afld 1 t3 fun t7 =>
ald1 t7 w2 fun t8 =>
aar .lss t6 t8 fun t9 =>
acnd t9 (R (.ret (.b true)) w2) (afld 1 t2 fun t11 =>
ald1 t11 w2 fun t12 =>
afld 1 t3 fun t13 =>
ald1 t13 w2 fun t14 =>
aar .eql t12 t14 fun t15 =>
ajn (fun y22 w3 =>
R (.ret (aix y22 0)) w3) fun j22 =>
acnd t15 (afld 2 t2 fun t17 =>
ald1 t17 w2 fun t18 =>
afld 2 t3 fun t19 =>
ald1 t19 w2 fun t20 =>
aar .lss t18 t20 fun t21 =>
j22 [t21] w2) (j22 [.b false] w2))
theorem A212_eq : A212 = fun a0 a1 L R => aex pr ⟨[(3000022, [])], []⟩ (bodyOf fn212) (aenv0 [a0, a1]) L (apost pr fn212.results.toList R) := by kernel_rfl
theorem s212 {a0 a1 : D} {L : List Bx} {R : AE → List Bx → Prop} (h : A212 a0 a1 L R) : ASpec pr 212 [a0, a1] L R :=
  aspec_of (A := ⟨[(3000022, [])], []⟩) (fn := fn212) 2 mixed Tryz.func212 (by kernel_rfl) (by decide) rfl (by kernel_rfl) (by rw [A212_eq] at h; exact h)
noncomputable abbrev fn189 : Func := Tryz.f189
def A189 (a0 a1 : D) (L : List Bx) (R : AE → List Bx → Prop) : Prop :=
abx [.b false, .val (.int .u64 0), .val (.int .u64 0)] L fun t4 w1 =>
acallW pr 210 [a0] w1 (apn R) fun t9 w2 =>
acallW pr 210 [a1] w2 (apn R) fun t11 w3 =>
acallW pr 209 [t9, t11] w3 (apn R) fun t12 w4 =>
aext 0 t12 fun t13 =>
aext 1 t12 fun t14 =>
aar .lss a0 (.i 0) fun t16 =>
aar .lss a1 (.i 0) fun t18 =>
aarB .neq t16 t18 fun t19 =>
abld [.b false, .val (.int .u64 0), .val (.int .u64 0)] [(0, 1, t19), (1, 1, t13), (2, 1, t14)] fun t22 =>
ast 3 t4 t22 w4 fun w5 =>
aldN 3 t4 w5 fun r0 =>
R (.ret r0) w5
theorem A189_eq : A189 = fun a0 a1 L R => aex pr ⟨[], []⟩ (bodyOf fn189) (aenv0 [a0, a1]) L (apost pr fn189.results.toList R) := by kernel_rfl
theorem s189 {a0 a1 : D} {L : List Bx} {R : AE → List Bx → Prop} (h : A189 a0 a1 L R) : ASpec pr 189 [a0, a1] L R :=
  aspec_of (A := ⟨[], []⟩) (fn := fn189) 2 mixed Tryz.func189 (by kernel_rfl) (by decide) rfl (by kernel_rfl) (by rw [A189_eq] at h; exact h)
noncomputable abbrev fn190 : Func := Tryz.f190
def A190 (a0 : D) (L : List Bx) (R : AE → List Bx → Prop) : Prop :=
abx [.b false, .val (.int .u64 0), .val (.int .u64 0)] L fun t2 w1 =>
aar .lss a0 (.i 0) fun t4 =>
acallW pr 210 [a0] w1 (apn R) fun t6 w2 =>
abld [.b false, .val (.int .u64 0), .val (.int .u64 0)] [(0, 1, t4), (1, 1, .val (.int .u64 0)), (2, 1, t6)] fun t7 =>
ast 3 t2 t7 w2 fun w3 =>
aldN 3 t2 w3 fun r0 =>
R (.ret r0) w3
theorem A190_eq : A190 = fun a0 L R => aex pr ⟨[], []⟩ (bodyOf fn190) (aenv0 [a0]) L (apost pr fn190.results.toList R) := by kernel_rfl
theorem s190 {a0 : D} {L : List Bx} {R : AE → List Bx → Prop} (h : A190 a0 L R) : ASpec pr 190 [a0] L R :=
  aspec_of (A := ⟨[], []⟩) (fn := fn190) 1 mixed Tryz.func190 (by kernel_rfl) (by decide) rfl (by kernel_rfl) (by rw [A190_eq] at h; exact h)
noncomputable abbrev fn192 : Func := Tryz.f192
def A192 (a0 : D) (L : List Bx) (R : AE → List Bx → Prop) : Prop :=
abxv a0 L fun t1 w1 =>
abx [.b false, .val (.int .u64 0), .val (.int .u64 0)] w1 fun t2 w2 =>
afld 0 t1 fun t3 =>
ald1 t3 w2 fun t4 =>
anotb t4 fun t5 =>
afld 1 t1 fun t6 =>
ald1 t6 w2 fun t7 =>
afld 2 t1 fun t8 =>
ald1 t8 w2 fun t9 =>
abld [.b false, .val (.int .u64 0), .val (.int .u64 0)] [(0, 1, t5), (1, 1, t7), (2, 1, t9)] fun t10 =>
ast 3 t2 t10 w2 fun w3 =>
aldN 3 t2 w3 fun r0 =>
R (.ret r0) w3
theorem A192_eq : A192 = fun a0 L R => aex pr ⟨[], []⟩ (bodyOf fn192) (aenv0 [a0]) L (apost pr fn192.results.toList R) := by kernel_rfl
theorem s192 {a0 : D} {L : List Bx} {R : AE → List Bx → Prop} (h : A192 a0 L R) : ASpec pr 192 [a0] L R :=
  aspec_of (A := ⟨[], []⟩) (fn := fn192) 1 mixed Tryz.func192 (by kernel_rfl) (by decide) rfl (by kernel_rfl) (by rw [A192_eq] at h; exact h)
noncomputable abbrev fn191 : Func := Tryz.f191
def A191 (a0 a1 : D) (L : List Bx) (R : AE → List Bx → Prop) : Prop :=
abxv a0 L fun t2 w1 =>
abxv a1 w1 fun t3 w2 =>
abx [.b false, .val (.int .u64 0), .val (.int .u64 0)] w2 fun t4 w3 =>
afld 0 t2 fun t13 =>
ald1 t13 w3 fun t14 =>
afld 0 t3 fun t15 =>
ald1 t15 w3 fun t16 =>
aarB .eql t14 t16 fun t17 =>
acnd t17 (afld 2 t2 fun t19 =>
ald1 t19 w3 fun t20 =>
afld 2 t3 fun t21 =>
ald1 t21 w3 fun t22 =>
acallW pr 211 [t20, t22, .val (.int .u64 0)] w3 (apn R) fun t23 w4 =>
aext 0 t23 fun t24 =>
aext 1 t23 fun t25 =>
afld 1 t2 fun t27 =>
ald1 t27 w4 fun t28 =>
afld 1 t3 fun t29 =>
ald1 t29 w4 fun t30 =>
acallW pr 211 [t28, t30, t25] w4 (apn R) fun t32 w5 =>
aext 0 t32 fun t33 =>
aext 1 t32 fun t34 =>
afld 0 t2 fun t35 =>
ald1 t35 w5 fun t36 =>
abld [.b false, .val (.int .u64 0), .val (.int .u64 0)] [(0, 1, t36), (1, 1, t33), (2, 1, t24)] fun t39 =>
ast 3 t4 t39 w5 fun w6 =>
aldN 3 t4 w6 fun r0 =>
R (.ret r0) w6) (ajn (fun v7 w7 =>
afld 2 t2 fun t46 =>
ald1 t46 w7 fun t47 =>
afld 2 t3 fun t48 =>
ald1 t48 w7 fun t49 =>
acallW pr 213 [t47, t49, .val (.int .u64 0)] w7 (apn R) fun t50 w8 =>
aext 0 t50 fun t51 =>
aext 1 t50 fun t52 =>
afld 1 t2 fun t54 =>
ald1 t54 w8 fun t55 =>
afld 1 t3 fun t56 =>
ald1 t56 w8 fun t57 =>
acallW pr 213 [t55, t57, t52] w8 (apn R) fun t59 w9 =>
aext 0 t59 fun t60 =>
aext 1 t59 fun t61 =>
afld 0 t2 fun t62 =>
ald1 t62 w9 fun t63 =>
abld [.b false, .val (.int .u64 0), .val (.int .u64 0)] [(0, 1, t63), (1, 1, t60), (2, 1, t51)] fun t66 =>
ast 3 t4 t66 w9 fun w10 =>
aldN 3 t4 w10 fun r0 =>
R (.ret r0) w10) fun j7 =>
aldN 3 t2 w3 fun t40 =>
aldN 3 t3 w3 fun t41 =>
acallW pr 212 [t40, t41] w3 (apn R) fun t42 w11 =>
acnd t42 (aldN 3 t3 w11 fun t43 =>
aldN 3 t2 w11 fun t44 =>
ast 3 t2 t43 w11 fun w12 =>
ast 3 t3 t44 w12 fun w13 =>
j7 [] w13) (j7 [] w11))
theorem A191_eq : A191 = fun a0 a1 L R => aex pr ⟨[(14, [])], []⟩ (bodyOf fn191) (aenv0 [a0, a1]) L (apost pr fn191.results.toList R) := by kernel_rfl
theorem s191 {a0 a1 : D} {L : List Bx} {R : AE → List Bx → Prop} (h : A191 a0 a1 L R) : ASpec pr 191 [a0, a1] L R :=
  aspec_of (A := ⟨[(14, [])], []⟩) (fn := fn191) 2 mixed Tryz.func191 (by kernel_rfl) (by decide) rfl (by kernel_rfl) (by rw [A191_eq] at h; exact h)
noncomputable abbrev fn208 : Func := Tryz.f208
def A208 (a0 : D) (L : List Bx) (R : AE → List Bx → Prop) : Prop :=
abxv a0 L fun t1 w1 =>
ajn (fun v2 w2 =>
acnd (aix v2 0) (abld [] [] fun t22 =>
apn R (.ifc 281 t22) w2) (afld 0 t1 fun t25 =>
ald1 t25 w2 fun t26 =>
acnd t26 (afld 2 t1 fun t27 =>
ald1 t27 w2 fun t28 =>
aneg t28 fun t29 =>
acvI .i64 t29 fun t30 =>
R (.ret t30) w2) (afld 2 t1 fun t31 =>
ald1 t31 w2 fun t32 =>
acvI .i64 t32 fun t33 =>
R (.ret t33) w2))) fun j2 =>
afld 1 t1 fun t4 =>
ald1 t4 w1 fun t5 =>
aar .gtr t5 (.val (.int .u64 0)) fun t6 =>
acnd t6 (j2 [.b true] w1) (afld 2 t1 fun t8 =>
ald1 t8 w1 fun t9 =>
aar .gtr t9 (.val (.int .u64 9223372036854775808)) fun t10 =>
acnd t10 (j2 [.b true] w1) (afld 2 t1 fun t13 =>
ald1 t13 w1 fun t14 =>
aar .eql t14 (.val (.int .u64 9223372036854775808)) fun t15 =>
ajn (fun y20 w3 =>
j2 [aix y20 0] w3) fun j20 =>
acnd t15 (afld 0 t1 fun t17 =>
ald1 t17 w1 fun t18 =>
anotb t18 fun t19 =>
j20 [t19] w1) (j20 [.b false] w1)))
theorem A208_eq : A208 = fun a0 L R => aex pr ⟨[(4, [3]), (3000020, [])], []⟩ (bodyOf fn208) (aenv0 [a0]) L (apost pr fn208.results.toList R) := by kernel_rfl
theorem s208 {a0 : D} {L : List Bx} {R : AE → List Bx → Prop} (h : A208 a0 L R) : ASpec pr 208 [a0] L R :=
  aspec_of (A := ⟨[(4, [3]), (3000020, [])], []⟩) (fn := fn208) 1 mixed Tryz.func208 (by kernel_rfl) (by decide) rfl (by kernel_rfl) (by rw [A208_eq] at h; exact h)
noncomputable abbrev fn222 : Func := Tryz.f222
def A222 (a0 a1 : D) (m : Option D) (L : List Bx) (R : Option D → List Bx → Prop) : Prop :=
aeqI .eql ((recD m)) (.val (.nilIface)) fun t8 =>
acnd t8 (R none L) (atas 281 (.agg []) ((recD m)) true fun t9 =>
aext 1 t9 fun t10 =>
aext 0 t9 fun t11 =>
acnd t10 (abx [] L fun t3 w1 =>
ast0 t3 t11 w1 fun w2 =>
ast 1 a0 (.i 0) w2 fun w3 =>
ast 1 a1 (.b false) w3 fun w4 =>
R none w4) (apnF ((recD m))))
theorem A222_eq : A222 = fun a0 a1 m L R => aexR pr ⟨[], []⟩ R m (bodyOf fn222) (aenv0 [a0, a1]) L := by kernel_rfl
theorem s222 {a0 a1 : D} {m : Option D} {L : List Bx} {R : Option D → List Bx → Prop} (h : A222 a0 a1 m L R) : ADef pr 222 [a0, a1] m L R :=
  adef_of (A := ⟨[], []⟩) (fn := fn222) 2 mixed Tryz.func222 (by kernel_rfl) (by decide) rfl rfl (by kernel_rfl) (by rw [A222_eq] at h; exact h)
noncomputable abbrev fn207 : Func := Tryz.f207
def K207 (t2 t3 : D) (R : AE → List Bx → Prop) (m : Option D) (L : List Bx) : Prop :=
ADef pr 222 [t2, t3] m L fun m w => aend R m w (ald1 t2 w fun r0 =>
ald1 t3 w fun r1 =>
R (.ret (.tuple [r0, r1])) w)
def A207 (a0 : D) (L : List Bx) (R : AE → List Bx → Prop) : Prop :=
abx [.i 0] L fun t2 w1 =>
abx [.b false] w1 fun t3 w2 =>
acallF pr false a0 [] w2 (fun c w => K207 t2 t3 R (some c) w) fun t6 w3 =>
ast 1 t2 t6 w3 fun w4 =>
ast 1 t3 (.b true) w4 fun w5 =>
K207 t2 t3 R none w5
theorem A207_eq : A207 = fun a0 L R => aexD pr ⟨[], []⟩ fn207.results.toList R (bodyOf fn207) (aenv0 [a0]) L := by kernel_rfl
theorem s207 {a0 : D} {L : List Bx} {R : AE → List Bx → Prop} (h : A207 a0 L R) : ASpec pr 207 [a0] L R :=
  aspec_ofD (A := ⟨[], []⟩) (fn := fn207) 1 mixed Tryz.func207 (by kernel_rfl) (by decide) rfl (by kernel_rfl) (by rw [A207_eq] at h; exact h)
noncomputable abbrev fn188 : Func := Tryz.f188
def A188 (a0 : D) (L : List Bx) (R : AE → List Bx → Prop) : Prop :=
abxv a0 L fun t1 w1 =>
aldN 3 t1 w1 fun t4 =>
acallW pr 207 [.fn 208 [t4] []] w1 (apn R) fun t6 w2 =>
aext 0 t6 fun t7 =>
aext 1 t6 fun t8 =>
R (.ret (.tuple [t7, t8])) w2
theorem A188_eq : A188 = fun a0 L R => aex pr ⟨[], []⟩ (bodyOf fn188) (aenv0 [a0]) L (apost pr fn188.results.toList R) := by kernel_rfl
theorem s188 {a0 : D} {L : List Bx} {R : AE → List Bx → Prop} (h : A188 a0 L R) : ASpec pr 188 [a0] L R :=
  aspec_of (A := ⟨[], []⟩) (fn := fn188) 1 mixed Tryz.func188 (by kernel_rfl) (by decide) rfl (by kernel_rfl) (by rw [A188_eq] at h; exact h)
noncomputable abbrev fn161 : Func := Tryz.f161
def A161 (a0 a1 : D) (L : List Bx) (R : AE → List Bx → Prop) : Prop :=
acallW pr 189 [a0, a1] L (apn R) fun t8 w1 =>
acallW pr 188 [t8] w1 (apn R) fun t9 w2 =>
aext 0 t9 fun t10 =>
aext 1 t9 fun t11 =>
R (.ret (.tuple [t10, t11])) w2
theorem A161_eq : A161 = fun a0 a1 L R => aex pr ⟨[], []⟩ (bodyOf fn161) (aenv0 [a0, a1]) L (apost pr fn161.results.toList R) := by kernel_rfl
theorem s161 {a0 a1 : D} {L : List Bx} {R : AE → List Bx → Prop} (h : A161 a0 a1 L R) : ASpec pr 161 [a0, a1] L R :=
  aspec_of (A := ⟨[], []⟩) (fn := fn161) 2 mixed Tryz.func161 (by kernel_rfl) (by decide) rfl (by kernel_rfl) (by rw [A161_eq] at h; exact h)
noncomputable abbrev fn162 : Func := Tryz.f162
def A162 (a0 a1 : D) (L : List Bx) (R : AE → List Bx → Prop) : Prop :=
acallW pr 190 [a0] L (apn R) fun t7 w1 =>
acallW pr 190 [a1] w1 (apn R) fun t9 w2 =>
acallW pr 191 [t7, t9] w2 (apn R) fun t10 w3 =>
acallW pr 188 [t10] w3 (apn R) fun t11 w4 =>
aext 0 t11 fun t12 =>
aext 1 t11 fun t13 =>
R (.ret (.tuple [t12, t13])) w4
theorem A162_eq : A162 = fun a0 a1 L R => aex pr ⟨[], []⟩ (bodyOf fn162) (aenv0 [a0, a1]) L (apost pr fn162.results.toList R) := by kernel_rfl
theorem s162 {a0 a1 : D} {L : List Bx} {R : AE → List Bx → Prop} (h : A162 a0 a1 L R) : ASpec pr 162 [a0, a1] L R :=
  aspec_of (A := ⟨[], []⟩) (fn := fn162) 2 mixed Tryz.func162 (by kernel_rfl) (by decide) rfl (by kernel_rfl) (by rw [A162_eq] at h; exact h)
noncomputable abbrev fn163 : Func := Tryz.f163
def A163 (a0 a1 : D) (L : List Bx) (R : AE → List Bx → Prop) : Prop :=
acallW pr 190 [a0] L (apn R) fun t7 w1 =>
acallW pr 190 [a1] w1 (apn R) fun t9 w2 =>
acallW pr 192 [t9] w2 (apn R) fun t10 w3 =>
acallW pr 191 [t7, t10] w3 (apn R) fun t11 w4 =>
acallW pr 188 [t11] w4 (apn R) fun t12 w5 =>
aext 0 t12 fun t13 =>
aext 1 t12 fun t14 =>
R (.ret (.tuple [t13, t14])) w5
theorem A163_eq : A163 = fun a0 a1 L R => aex pr ⟨[], []⟩ (bodyOf fn163) (aenv0 [a0, a1]) L (apost pr fn163.results.toList R) := by kernel_rfl
theorem s163 {a0 a1 : D} {L : List Bx} {R : AE → List Bx → Prop} (h : A163 a0 a1 L R) : ASpec pr 163 [a0, a1] L R :=
  aspec_of (A := ⟨[], []⟩) (fn := fn163) 2 mixed Tryz.func163 (by kernel_rfl) (by decide) rfl (by kernel_rfl) (by rw [A163_eq] at h; exact h)
noncomputable abbrev fn160 : Func := Tryz.f160
def A160 (a0 a1 : D) (L : List Bx) (R : AE → List Bx → Prop) : Prop :=
anotb a1 fun t6 =>
acnd t6 (apn R (.ifc 129 (.i 5)) L) (R (.ret a0) L)
theorem A160_eq : A160 = fun a0 a1 L R => aex pr ⟨[], []⟩ (bodyOf fn160) (aenv0 [a0, a1]) L (apost pr fn160.results.toList R) := by kernel_rfl
theorem s160 {a0 a1 : D} {L : List Bx} {R : AE → List Bx → Prop} (h : A160 a0 a1 L R) : ASpec pr 160 [a0, a1] L R :=
  aspec_of (A := ⟨[], []⟩) (fn := fn160) 2 mixed Tryz.func160 (by kernel_rfl) (by decide) rfl (by kernel_rfl) (by rw [A160_eq] at h; exact h)
noncomputable abbrev fn158 : Func := Tryz.f158
def A158 (a0 : D) (L : List Bx) (R : AE → List Bx → Prop) : Prop :=
alenL a0 fun t7 =>
alp [.i 0, .i 0] L fun v3 w1 k3 =>
aar .lss (aix v3 1) t7 fun t9 =>
acnd t9 (aidxS 1 a0 (aix v3 1) fun t10 =>
ald1 t10 w1 fun t11 =>
acnd t11 (aar .add (aix v3 0) (.i 1) fun t14 =>
aar .add (aix v3 1) (.i 1) fun t15 =>
k3 [t14, t15] w1) (aar .add (aix v3 1) (.i 1) fun t15 =>
k3 [aix v3 0, t15] w1)) (R (.ret (aix v3 0)) w1)
theorem A158_eq : A158 = fun a0 L R => aex pr ⟨[(7, [3, 8])], []⟩ (bodyOf fn158) (aenv0 [a0]) L (apost pr fn158.results.toList R) := by kernel_rfl
theorem s158 {a0 : D} {L : List Bx} {R : AE → List Bx → Prop} (h : A158 a0 L R) : ASpec pr 158 [a0] L R :=
  aspec_of (A := ⟨[(7, [3, 8])], []⟩) (fn := fn158) 1 mixed Tryz.func158 (by kernel_rfl) (by decide) rfl (by kernel_rfl) (by rw [A158_eq] at h; exact h)
noncomputable abbrev fn165 : Func := Tryz.f165
def A165 (a0 a1 : D) (L : List Bx) (R : AE → List Bx → Prop) : Prop :=
alenL a0 fun t8 =>
alp [.i 0] L fun v2 w1 k2 =>
aar .lss (aix v2 0) t8 fun t10 =>
acnd t10 (aidxS 1 a0 (aix v2 0) fun t12 =>
ald1 t12 w1 fun t13 =>
acnd t13 (aidxS 1 a1 (aix v2 0) fun t18 =>
ald1 t18 w1 fun t19 =>
anotb t19 fun t20 =>
acnd t20 (R (.ret (.b false)) w1) (aar .add (aix v2 0) (.i 1) fun t22 =>
k2 [t22] w1)) (aar .add (aix v2 0) (.i 1) fun t22 =>
k2 [t22] w1)) (R (.ret (.b true)) w1)
theorem A165_eq : A165 = fun a0 a1 L R => aex pr ⟨[(5, [9])], []⟩ (bodyOf fn165) (aenv0 [a0, a1]) L (apost pr fn165.results.toList R) := by kernel_rfl
theorem s165 {a0 a1 : D} {L : List Bx} {R : AE → List Bx → Prop} (h : A165 a0 a1 L R) : ASpec pr 165 [a0, a1] L R :=
  aspec_of (A := ⟨[(5, [9])], []⟩) (fn := fn165) 2 mixed Tryz.func165 (by kernel_rfl) (by decide) rfl (by kernel_rfl) (by rw [A165_eq] at h; exact h)
noncomputable abbrev fn166 : Func := Tryz.f166
def A166 (a0 a1 : D) (L : List Bx) (R : AE → List Bx → Prop) : Prop :=
alenL a0 fun t7 =>
alenL a1 fun t9 =>
aar .neq t7 t9 fun t10 =>
acnd t10 (R (.ret (.b false)) L) (alenL a0 fun t12 =>
alp [.i 0] L fun v4 w1 k4 =>
aar .lss (aix v4 0) t12 fun t14 =>
acnd t14 (aidxS 1 a0 (aix v4 0) fun t18 =>
ald1 t18 w1 fun t19 =>
aidxS 1 a1 (aix v4 0) fun t22 =>
ald1 t22 w1 fun t23 =>
aarB .neq t19 t23 fun t24 =>
acnd t24 (R (.ret (.b false)) w1) (aar .add (aix v4 0) (.i 1) fun t25 =>
k4 [t25] w1)) (R (.ret (.b true)) w1))
theorem A166_eq : A166 = fun a0 a1 L R => aex pr ⟨[(9, [13])], [(6, [(0, 0), (1, 0), (2, 0), (3, 0), (4, 0), (5, 0), (6, 0), (7, 0), (8, 0)])]⟩ (bodyOf fn166) (aenv0 [a0, a1]) L (apost pr fn166.results.toList R) := by kernel_rfl
theorem s166 {a0 a1 : D} {L : List Bx} {R : AE → List Bx → Prop} (h : A166 a0 a1 L R) : ASpec pr 166 [a0, a1] L R :=
  aspec_of (A := ⟨[(9, [13])], [(6, [(0, 0), (1, 0), (2, 0), (3, 0), (4, 0), (5, 0), (6, 0), (7, 0), (8, 0)])]⟩) (fn := fn166) 2 mixed Tryz.func166 (by kernel_rfl) (by decide) rfl (by kernel_rfl) (by rw [A166_eq] at h; exact h)
noncomputable abbrev fn49 : Func := Tryz.f49
def A49 (a0 : D) (L : List Bx) (R : AE → List Bx → Prop) : Prop :=
aeqS false .eql a0 (.nil) fun t4 =>
acnd t4 (R (.ret (.nil)) L) (abldS 4 1 0 [] [] L fun t5 w1 =>
aapp 4 1 1 t5 a0 w1 fun t7 w2 =>
R (.ret t7) w2)
theorem A49_eq : A49 = fun a0 L R => aex pr ⟨[], []⟩ (bodyOf fn49) (aenv0 [a0]) L (apost pr fn49.results.toList R) := by kernel_rfl
theorem s49 {a0 : D} {L : List Bx} {R : AE → List Bx → Prop} (h : A49 a0 L R) : ASpec pr 49 [a0] L R :=
  aspec_of (A := ⟨[], []⟩) (fn := fn49) 1 mixed Tryz.func49 (by kernel_rfl) (by decide) rfl (by kernel_rfl) (by rw [A49_eq] at h; exact h)
noncomputable abbrev fn54 : Func := Tryz.f54
def A54 (a0 : D) (L : List Bx) (R : AE → List Bx → Prop) : Prop :=
abxv a0 L fun t1 w1 =>
abx [.i 0, .i 0, .b false, .nil] w1 fun t2 w2 =>
afld 3 t1 fun t3 =>
ald1 t3 w2 fun t4 =>
acallW pr 49 [t4] w2 (apn R) fun t5 w3 =>
afld 3 t1 fun t6 =>
ast 1 t6 t5 w3 fun w4 =>
aldN 4 t1 w4 fun t7 =>
ast 4 t2 t7 w4 fun w5 =>
aldN 4 t2 w5 fun r0 =>
R (.ret r0) w5
theorem A54_eq : A54 = fun a0 L R => aex pr ⟨[], []⟩ (bodyOf fn54) (aenv0 [a0]) L (apost pr fn54.results.toList R) := by kernel_rfl
theorem s54 {a0 : D} {L : List Bx} {R : AE → List Bx → Prop} (h : A54 a0 L R) : ASpec pr 54 [a0] L R :=
  aspec_of (A := ⟨[], []⟩) (fn := fn54) 1 mixed Tryz.func54 (by kernel_rfl) (by decide) rfl (by kernel_rfl) (by rw [A54_eq] at h; exact h)
noncomputable abbrev fn95 : Func := Tryz.f95
def A95 (a0 a1 a2 : D) (L : List Bx) (R : AE → List Bx → Prop) : Prop :=
abxv a0 L fun t3 w1 =>
afld 0 t3 fun t5 =>
ald1 t5 w1 fun t6 =>
ald1 a1 w1 fun t7 =>
aar .eql t6 t7 fun t8 =>
acnd t8 (afld 1 t3 fun t10 =>
afld 0 t10 fun t11 =>
ald1 t11 w1 fun t12 =>
ald1 a2 w1 fun t13 =>
aar .eql t12 t13 fun t14 =>
R (.ret t14) w1) (R (.ret (.b false)) w1)
theorem A95_eq : A95 = fun a0 a1 a2 L R => aex pr ⟨[], []⟩ (bodyOf fn95) (aenv0 [a0, a1, a2]) L (apost pr fn95.results.toList R) := by kernel_rfl
theorem s95 {a0 a1 a2 : D} {L : List Bx} {R : AE → List Bx → Prop} (h : A95 a0 a1 a2 L R) : ASpec pr 95 [a0, a1, a2] L R :=
  aspec_of (A := ⟨[], []⟩) (fn := fn95) 3 mixed Tryz.func95 (by kernel_rfl) (by decide) rfl (by kernel_rfl) (by rw [A95_eq] at h; exact h)
noncomputable abbrev fn94 : Func := Tryz.f94
def A94 (a0 a1 : D) (L : List Bx) (R : AE → List Bx → Prop) : Prop :=
alenL a0 fun t7 =>
alp [.i 0] L fun v2 w1 k2 =>
aar .lss (aix v2 0) t7 fun t9 =>
acnd t9 (aidxS 5 a0 (aix v2 0) fun t14 =>
aldN 5 t14 w1 fun t15 =>
acallF pr false a1 [t15] w1 (apn R) fun t16 w2 =>
acnd t16 (R (.ret (aix v2 0)) w2) (aar .add (aix v2 0) (.i 1) fun t18 =>
k2 [t18] w2)) (R (.ret (.i (-1))) w1)
theorem A94_eq : A94 = fun a0 a1 L R => aex pr ⟨[(5, [8])], []⟩ (bodyOf fn94) (aenv0 [a0, a1]) L (apost pr fn94.results.toList R) := by kernel_rfl
theorem s94 {a0 a1 : D} {L : List Bx} {R : AE → List Bx → Prop} (h : A94 a0 a1 L R) : ASpec pr 94 [a0, a1] L R :=
  aspec_of (A := ⟨[(5, [8])], []⟩) (fn := fn94) 2 mixed Tryz.func94 (by kernel_rfl) (by decide) rfl (by kernel_rfl) (by rw [A94_eq] at h; exact h)
noncomputable abbrev fn53 : Func := Tryz.f53
def A53 (a0 a1 a2 : D) (L : List Bx) (R : AE → List Bx → Prop) : Prop :=
abxv a0 L fun t3 w1 =>
abxv a1 w1 fun t4 w2 =>
abxv a2 w2 fun t5 w3 =>
afld 1 t3 fun t7 =>
ald1 t7 w3 fun t8 =>
acallW pr 94 [t8, .fn 95 [] [t4, t5]] w3 (apn R) fun t10 w4 =>
R (.ret t10) w4
theorem A53_eq : A53 = fun a0 a1 a2 L R => aex pr ⟨[], []⟩ (bodyOf fn53) (aenv0 [a0, a1, a2]) L (apost pr fn53.results.toList R) := by kernel_rfl
theorem s53 {a0 a1 a2 : D} {L : List Bx} {R : AE → List Bx → Prop} (h : A53 a0 a1 a2 L R) : ASpec pr 53 [a0, a1, a2] L R :=
  aspec_of (A := ⟨[], []⟩) (fn := fn53) 3 mixed Tryz.func53 (by kernel_rfl) (by decide) rfl (by kernel_rfl) (by rw [A53_eq] at h; exact h)
noncomputable abbrev fn52 : Func := Tryz.f52
def A52 (a0 a1 : D) (L : List Bx) (R : AE → List Bx → Prop) : Prop :=
abxv a0 L fun t2 w1 =>
ajn (fun v4 w2 =>
ajn (fun v6 w3 =>
afld 0 t2 fun t24 =>
ald1 t24 w3 fun t25 =>
aar .eql t25 (.i 1) fun t27 =>
acnd t27 (R (.ret (.b true)) w3) (aar .eql t25 (.i 3) fun t29 =>
acnd t29 (afld 1 t2 fun t30 =>
ald1 t30 w3 fun t31 =>
aar .geq t31 (.i 0) fun t32 =>
acnd t32 (afld 1 t2 fun t34 =>
ald1 t34 w3 fun t35 =>
aar .lss t35 a1 fun t37 =>
R (.ret t37) w3) (R (.ret (.b false)) w3)) (aar .eql t25 (.i 2) fun t40 =>
acnd t40 (acnd t40 (afld 1 t2 fun t42 =>
ald1 t42 w3 fun t43 =>
aar .eql t43 (.i 0) fun t44 =>
R (.ret t44) w3) (R (.ret (.b false)) w3)) (aar .eql t25 (.i 4) fun t41 =>
acnd t41 (afld 1 t2 fun t42 =>
ald1 t42 w3 fun t43 =>
aar .eql t43 (.i 0) fun t44 =>
R (.ret t44) w3) (R (.ret (.b false)) w3))))) fun j6 =>
afld 3 t2 fun t10 =>
ald1 t10 w2 fun t11 =>
alenL t11 fun t12 =>
aar .neq t12 (aix v4 0) fun t14 =>
acnd t14 (R (.ret (.b false)) w2) (afld 2 t2 fun t16 =>
ald1 t16 w2 fun t17 =>
ajn (fun y22 w4 =>
acnd (aix y22 0) (R (.ret (.b false)) w4) (j6 [] w4)) fun j22 =>
acnd t17 (afld 0 t2 fun t19 =>
ald1 t19 w2 fun t20 =>
aar .neq t20 (.i 4) fun t21 =>
j22 [t21] w2) (j22 [.b false] w2))) fun j4 =>
afld 0 t2 fun t6 =>
ald1 t6 w1 fun t7 =>
aar .eql t7 (.i 2) fun t8 =>
acnd t8 (j4 [a1] w1) (j4 [.i 0] w1)
theorem A52_eq : A52 = fun a0 a1 L R => aex pr ⟨[(8, [5]), (12, []), (3000022, [])], []⟩ (bodyOf fn52) (aenv0 [a0, a1]) L (apost pr fn52.results.toList R) := by kernel_rfl
theorem s52 {a0 a1 : D} {L : List Bx} {R : AE → List Bx → Prop} (h : A52 a0 a1 L R) : ASpec pr 52 [a0, a1] L R :=
  aspec_of (A := ⟨[(8, [5]), (12, []), (3000022, [])], []⟩) (fn := fn52) 2 mixed Tryz.func52 (by kernel_rfl) (by decide) rfl (by kernel_rfl) (by rw [A52_eq] at h; exact h)
noncomputable abbrev fn23 : Func := Tryz.f23
def A23 (a0 : D) (L : List Bx) (R : AE → List Bx → Prop) : Prop :=
abxv a0 L fun t1 w1 =>
ajn (fun v3 w2 =>
amkM w2 fun t21 w3 =>
afld 1 t1 fun t22 =>
ald1 t22 w3 fun t23 =>
alenL t23 fun t24 =>
alp [.i 0] w3 fun v5 w4 k5 =>
aar .lss (aix v5 0) t24 fun t26 =>
acnd t26 (aidxS 5 t23 (aix v5 0) fun t27 =>
aldN 5 t27 w4 fun t28 =>
abx [.s ⟨#[]⟩, .i 0, .i 0, .b false, .nil] w4 fun t5 w5 =>
ast 5 t5 t28 w5 fun w6 =>
afld 0 t5 fun t29 =>
ald1 t29 w6 fun t30 =>
afld 1 t5 fun t31 =>
afld 0 t31 fun t32 =>
ald1 t32 w6 fun t33 =>
abld [.s ⟨#[]⟩, .i 0] [(0, 1, t30), (1, 1, t33)] fun t34 =>
abx [.s ⟨#[]⟩, .i 0] w6 fun t6 w7 =>
ast 2 t6 t34 w7 fun w8 =>
afld 0 t5 fun t35 =>
ald1 t35 w8 fun t36 =>
acallW pr 51 [t36] w8 (apn R) fun t37 w9 =>
anotb t37 fun t38 =>
acnd t38 (R (.ret (.b false)) w9) (afld 1 t5 fun t40 =>
aldN 4 t40 w9 fun t41 =>
afld 0 t1 fun t42 =>
ald1 t42 w9 fun t43 =>
acallW pr 52 [t41, t43] w9 (apn R) fun t44 w10 =>
anotb t44 fun t45 =>
acnd t45 (R (.ret (.b false)) w10) (aldN 2 t6 w10 fun t49 =>
alkM pr 102 false (.b false) t21 t49 w10 fun t50 =>
acnd t50 (R (.ret (.b false)) w10) (aldN 2 t6 w10 fun t53 =>
aupM pr 102 t21 t53 (.b true) w10 fun w11 =>
aar .add (aix v5 0) (.i 1) fun t54 =>
k5 [t54] w11)))) (R (.ret (.b true)) w4)) fun j3 =>
afld 0 t1 fun t7 =>
ald1 t7 w1 fun t8 =>
aar .lss t8 (.i 1) fun t9 =>
acnd t9 (R (.ret (.b false)) w1) (afld 0 t1 fun t11 =>
ald1 t11 w1 fun t12 =>
aar .gtr t12 (.i 64) fun t13 =>
acnd t13 (R (.ret (.b false)) w1) (afld 1 t1 fun t16 =>
ald1 t16 w1 fun t17 =>
alenL t17 fun t18 =>
aar .gtr t18 (.i 64) fun t19 =>
acnd t19 (R (.ret (.b false)) w1) (j3 [] w1)))
theorem A23_eq : A23 = fun a0 L R => aex pr ⟨[(6, []), (11, [25])], []⟩ (bodyOf fn23) (aenv0 [a0]) L (apost pr fn23.results.toList R) := by kernel_rfl
theorem s23 {a0 : D} {L : List Bx} {R : AE → List Bx → Prop} (h : A23 a0 L R) : ASpec pr 23 [a0] L R :=
  aspec_of (A := ⟨[(6, []), (11, [25])], []⟩) (fn := fn23) 1 mixed Tryz.func23 (by kernel_rfl) (by decide) rfl (by kernel_rfl) (by rw [A23_eq] at h; exact h)
noncomputable abbrev fn24 : Func := Tryz.f24
def A24 (a0 a1 a2 : D) (L : List Bx) (R : AE → List Bx → Prop) : Prop :=
abxv a0 L fun t3 w1 =>
abx [.i 0, .i 0, .b false, .nil] w1 fun t6 w2 =>
aldN 2 t3 w2 fun t9 =>
acallW pr 53 [t9, a1, a2] w2 (apn R) fun t12 w3 =>
aar .lss t12 (.i 0) fun t14 =>
acnd t14 (abld [.i 0, .i 0, .b false, .nil] [] fun t15 =>
ast 4 t6 t15 w3 fun w4 =>
aldN 4 t6 w4 fun r0 =>
R (.ret (.tuple [r0, .b false])) w4) (afld 1 t3 fun t16 =>
ald1 t16 w3 fun t17 =>
aidxS 5 t17 t12 fun t19 =>
afld 1 t19 fun t20 =>
aldN 4 t20 w3 fun t21 =>
acallW pr 54 [t21] w3 (apn R) fun t22 w5 =>
ast 4 t6 t22 w5 fun w6 =>
aldN 4 t6 w6 fun r0 =>
R (.ret (.tuple [r0, .b true])) w6)
theorem A24_eq : A24 = fun a0 a1 a2 L R => aex pr ⟨[], []⟩ (bodyOf fn24) (aenv0 [a0, a1, a2]) L (apost pr fn24.results.toList R) := by kernel_rfl
theorem s24 {a0 a1 a2 : D} {L : List Bx} {R : AE → List Bx → Prop} (h : A24 a0 a1 a2 L R) : ASpec pr 24 [a0, a1, a2] L R :=
  aspec_of (A := ⟨[], []⟩) (fn := fn24) 3 mixed Tryz.func24 (by kernel_rfl) (by decide) rfl (by kernel_rfl) (by rw [A24_eq] at h; exact h)
noncomputable abbrev fn34 : Func := Tryz.f34
def A34 (a0 a1 a2 : D) (L : List Bx) (R : AE → List Bx → Prop) : Prop :=
abxv a0 L fun t3 w1 =>
abxv a2 w1 fun t5 w2 =>
abx [.i 0, .nil] w2 fun t6 w3 =>
afld 1 t3 fun t11 =>
ald1 t11 w3 fun t12 =>
alenL t12 fun t13 =>
aar .add t13 (.i 1) fun t14 =>
amkS 70 5 64 [.s ⟨#[]⟩, .i 0, .i 0, .b false, .nil] (.i 0) t14 w3 fun t15 w4 =>
afld 1 t3 fun t16 =>
ald1 t16 w4 fun t17 =>
alenL t17 fun t18 =>
alp [t15, .i 0] w4 fun v3 w5 k3 =>
aar .lss (aix v3 1) t18 fun t20 =>
acnd t20 (aidxS 5 t17 (aix v3 1) fun t21 =>
aldN 5 t21 w5 fun t22 =>
abx [.s ⟨#[]⟩, .i 0, .i 0, .b false, .nil] w5 fun t9 w6 =>
ast 5 t9 t22 w6 fun w7 =>
afld 0 t9 fun t24 =>
ald1 t24 w7 fun t25 =>
afld 1 t9 fun t26 =>
aldN 4 t26 w7 fun t27 =>
acallS pr 54 [t27] w7 (fun _ _ => False) fun t28 w8 =>
abld [.s ⟨#[]⟩, .i 0, .i 0, .b false, .nil] [(0, 1, t25), (1, 4, t28)] fun t29 =>
abldF 5 1 [.s ⟨#[]⟩, .i 0, .i 0, .b false, .nil] [(0, 5, t29)] fun t30 =>
aapp 70 5 64 (aix v3 0) t30 w8 fun t31 w9 =>
aar .add (aix v3 1) (.i 1) fun t32 =>
k3 [t31, t32] w9) (afld 1 t3 fun t34 =>
ast 1 t34 (aix v3 0) w5 fun w10 =>
aldN 2 t3 w10 fun t35 =>
afld 0 t5 fun t37 =>
ald1 t37 w10 fun t38 =>
acallW pr 53 [t35, a1, t38] w10 (apn R) fun t39 w11 =>
aar .geq t39 (.i 0) fun t41 =>
acnd t41 (afld 1 t3 fun t42 =>
ald1 t42 w11 fun t43 =>
aldN 4 t5 w11 fun t45 =>
acallS pr 54 [t45] w11 (fun _ _ => False) fun t46 w12 =>
aidxS 5 t43 t39 fun t47 =>
afld 1 t47 fun t48 =>
ast 4 t48 t46 w12 fun w13 =>
aldN 2 t3 w13 fun t58 =>
ast 2 t6 t58 w13 fun w14 =>
aldN 2 t6 w14 fun r0 =>
R (.ret r0) w14) (afld 1 t3 fun t49 =>
ald1 t49 w11 fun t50 =>
aldN 4 t5 w11 fun t52 =>
acallS pr 54 [t52] w11 (fun _ _ => False) fun t53 w15 =>
abld [.s ⟨#[]⟩, .i 0, .i 0, .b false, .nil] [(0, 1, a1), (1, 4, t53)] fun t54 =>
abldF 5 1 [.s ⟨#[]⟩, .i 0, .i 0, .b false, .nil] [(0, 5, t54)] fun t55 =>
aapp 70 5 64 t50 t55 w15 fun t56 w16 =>
afld 1 t3 fun t57 =>
ast 1 t57 t56 w16 fun w17 =>
aldN 2 t3 w17 fun t58 =>
ast 2 t6 t58 w17 fun w18 =>
aldN 2 t6 w18 fun r0 =>
R (.ret r0) w18))
theorem A34_eq : A34 = fun a0 a1 a2 L R => aex pr ⟨[(7, [7, 19])], [(5, [(0, 0), (1, 0), (2, 0), (3, 0), (4, 0), (5, 0), (6, 0), (7, 0), (8, 2), (9, 2)]), (10, [(0, 0), (1, 0), (2, 0), (3, 0), (4, 0), (5, 0), (6, 0), (7, 2)]), (11, [(0, 0), (1, 0), (2, 0), (3, 0), (4, 0), (5, 0), (6, 0), (7, 2), (8, 0), (9, 2)])]⟩ (bodyOf fn34) (aenv0 [a0, a1, a2]) L (apost pr fn34.results.toList R) := by kernel_rfl
theorem s34 {a0 a1 a2 : D} {L : List Bx} {R : AE → List Bx → Prop} (h : A34 a0 a1 a2 L R) : ASpec pr 34 [a0, a1, a2] L R :=
  aspec_of (A := ⟨[(7, [7, 19])], [(5, [(0, 0), (1, 0), (2, 0), (3, 0), (4, 0), (5, 0), (6, 0), (7, 0), (8, 2), (9, 2)]), (10, [(0, 0), (1, 0), (2, 0), (3, 0), (4, 0), (5, 0), (6, 0), (7, 2)]), (11, [(0, 0), (1, 0), (2, 0), (3, 0), (4, 0), (5, 0), (6, 0), (7, 2), (8, 0), (9, 2)])]⟩) (fn := fn34) 3 mixed Tryz.func34 (by kernel_rfl) (by decide) rfl (by kernel_rfl) (by rw [A34_eq] at h; exact h)
noncomputable abbrev fn111 : Func := Tryz.f111
def A111 (a0 a1 a2 : D) (L : List Bx) (R : AE → List Bx → Prop) : Prop :=
abxv a0 L fun t3 w1 =>
abxv a1 w1 fun t4 w2 =>
abx [.i 0, .i 0, .b false, .nil] w2 fun t6 w3 =>
afld 0 t3 fun t10 =>
aldN 2 t10 w3 fun t11 =>
afld 1 t4 fun t12 =>
ald1 t12 w3 fun t13 =>
acallW pr 24 [t11, t13, a2] w3 (apn R) fun t15 w4 =>
aext 0 t15 fun t16 =>
aext 1 t15 fun t17 =>
abx [.i 0, .i 0, .b false, .nil] w4 fun t7 w5 =>
ast 4 t7 t16 w5 fun w6 =>
anotb t17 fun t19 =>
acnd t19 (apn R (.ifc 129 (.i 4)) w6) (aldN 4 t7 w6 fun t21 =>
ast 4 t6 t21 w6 fun w7 =>
aldN 4 t6 w7 fun r0 =>
R (.ret r0) w7)
theorem A111_eq : A111 = fun a0 a1 a2 L R => aex pr ⟨[], []⟩ (bodyOf fn111) (aenv0 [a0, a1, a2]) L (apost pr fn111.results.toList R) := by kernel_rfl
theorem s111 {a0 a1 a2 : D} {L : List Bx} {R : AE → List Bx → Prop} (h : A111 a0 a1 a2 L R) : ASpec pr 111 [a0, a1, a2] L R :=
  aspec_of (A := ⟨[], []⟩) (fn := fn111) 3 mixed Tryz.func111 (by kernel_rfl) (by decide) rfl (by kernel_rfl) (by rw [A111_eq] at h; exact h)
noncomputable abbrev fn114 : Func := Tryz.f114
def A114 (a0 : D) (L : List Bx) (R : AE → List Bx → Prop) : Prop :=
R (.ret (.b false)) L
theorem A114_eq : A114 = fun a0 L R => aex pr ⟨[], []⟩ (bodyOf fn114) (aenv0 [a0]) L (apost pr fn114.results.toList R) := by kernel_rfl
theorem s114 {a0 : D} {L : List Bx} {R : AE → List Bx → Prop} (h : A114 a0 L R) : ASpec pr 114 [a0] L R :=
  aspec_of (A := ⟨[], []⟩) (fn := fn114) 1 mixed Tryz.func114 (by kernel_rfl) (by decide) rfl (by kernel_rfl) (by rw [A114_eq] at h; exact h)
noncomputable abbrev fn115 : Func := Tryz.f115
def A115 (a0 : D) (L : List Bx) (R : AE → List Bx → Prop) : Prop :=
R (.ret (.b true)) L
theorem A115_eq : A115 = fun a0 L R => aex pr ⟨[], []⟩ (bodyOf fn115) (aenv0 [a0]) L (apost pr fn115.results.toList R) := by kernel_rfl
theorem s115 {a0 : D} {L : List Bx} {R : AE → List Bx → Prop} (h : A115 a0 L R) : ASpec pr 115 [a0] L R :=
  aspec_of (A := ⟨[], []⟩) (fn := fn115) 1 mixed Tryz.func115 (by kernel_rfl) (by decide) rfl (by kernel_rfl) (by rw [A115_eq] at h; exact h)
noncomputable abbrev fn117 : Func := Tryz.f117
def A117 (a0 a1 : D) (L : List Bx) (R : AE → List Bx → Prop) : Prop :=
ald1 a1 L fun t5 =>
aar .eql a0 t5 fun t6 =>
R (.ret t6) L
theorem A117_eq : A117 = fun a0 a1 L R => aex pr ⟨[], []⟩ (bodyOf fn117) (aenv0 [a0, a1]) L (apost pr fn117.results.toList R) := by kernel_rfl
theorem s117 {a0 a1 : D} {L : List Bx} {R : AE → List Bx → Prop} (h : A117 a0 a1 L R) : ASpec pr 117 [a0, a1] L R :=
  aspec_of (A := ⟨[], []⟩) (fn := fn117) 2 mixed Tryz.func117 (by kernel_rfl) (by decide) rfl (by kernel_rfl) (by rw [A117_eq] at h; exact h)
noncomputable abbrev fn119 : Func := Tryz.f119
def A119 (a0 a1 a2 : D) (L : List Bx) (R : AE → List Bx → Prop) : Prop :=
ald1 a1 L fun t5 =>
aidxS 1 t5 a0 fun t7 =>
ald1 t7 L fun t8 =>
acnd t8 (R (.ret (.b true)) L) (ald1 a2 L fun t10 =>
aidxS 1 t10 a0 fun t12 =>
ald1 t12 L fun t13 =>
R (.ret t13) L)
theorem A119_eq : A119 = fun a0 a1 a2 L R => aex pr ⟨[], []⟩ (bodyOf fn119) (aenv0 [a0, a1, a2]) L (apost pr fn119.results.toList R) := by kernel_rfl
theorem s119 {a0 a1 a2 : D} {L : List Bx} {R : AE → List Bx → Prop} (h : A119 a0 a1 a2 L R) : ASpec pr 119 [a0, a1, a2] L R :=
  aspec_of (A := ⟨[], []⟩) (fn := fn119) 3 mixed Tryz.func119 (by kernel_rfl) (by decide) rfl (by kernel_rfl) (by rw [A119_eq] at h; exact h)
noncomputable abbrev fn120 : Func := Tryz.f120
def A120 (a0 a1 a2 : D) (L : List Bx) (R : AE → List Bx → Prop) : Prop :=
ald1 a1 L fun t5 =>
aidxS 1 t5 a0 fun t7 =>
ald1 t7 L fun t8 =>
acnd t8 (ald1 a2 L fun t10 =>
aidxS 1 t10 a0 fun t12 =>
ald1 t12 L fun t13 =>
R (.ret t13) L) (R (.ret (.b false)) L)
theorem A120_eq : A120 = fun a0 a1 a2 L R => aex pr ⟨[], []⟩ (bodyOf fn120) (aenv0 [a0, a1, a2]) L (apost pr fn120.results.toList R) := by kernel_rfl
theorem s120 {a0 a1 a2 : D} {L : List Bx} {R : AE → List Bx → Prop} (h : A120 a0 a1 a2 L R) : ASpec pr 120 [a0, a1, a2] L R :=
  aspec_of (A := ⟨[], []⟩) (fn := fn120) 3 mixed Tryz.func120 (by kernel_rfl) (by decide) rfl (by kernel_rfl) (by rw [A120_eq] at h; exact h)
noncomputable abbrev fn121 : Func := Tryz.f121
def A121 (a0 a1 a2 : D) (L : List Bx) (R : AE → List Bx → Prop) : Prop :=
ald1 a1 L fun t5 =>
aidxS 1 t5 a0 fun t7 =>
ald1 t7 L fun t8 =>
acnd t8 (ald1 a2 L fun t10 =>
aidxS 1 t10 a0 fun t12 =>
ald1 t12 L fun t13 =>
anotb t13 fun t14 =>
R (.ret t14) L) (R (.ret (.b false)) L)
theorem A121_eq : A121 = fun a0 a1 a2 L R => aex pr ⟨[], []⟩ (bodyOf fn121) (aenv0 [a0, a1, a2]) L (apost pr fn121.results.toList R) := by kernel_rfl
theorem s121 {a0 a1 a2 : D} {L : List Bx} {R : AE → List Bx → Prop} (h : A121 a0 a1 a2 L R) : ASpec pr 121 [a0, a1, a2] L R :=
  aspec_of (A := ⟨[], []⟩) (fn := fn121) 3 mixed Tryz.func121 (by kernel_rfl) (by decide) rfl (by kernel_rfl) (by rw [A121_eq] at h; exact h)
noncomputable abbrev fn113 : Func := Tryz.f113
def A113 (a0 a1 : D) (L : List Bx) (R : AE → List Bx → Prop) : Prop :=
abxv a0 L fun t2 w1 =>
abx [.i 0, .i 0, .b false, .nil] w1 fun t4 w2 =>
afld 0 t2 fun t7 =>
afld 0 t7 fun t8 =>
ald1 t8 w2 fun t9 =>
amkS 4 1 1 [.b false] t9 t9 w2 fun t10 w3 =>
abld [.i 0, .i 0, .b false, .nil] [(0, 1, .i 2), (3, 1, t10)] fun t11 =>
abx [.i 0, .i 0, .b false, .nil] w3 fun t5 w4 =>
ast 4 t5 t11 w4 fun w5 =>
afld 3 t5 fun t12 =>
ald1 t12 w5 fun t13 =>
alenL t13 fun t14 =>
alp [.i 0] w5 fun v3 w6 k3 =>
aar .lss (aix v3 0) t14 fun t16 =>
acnd t16 (afld 3 t5 fun t18 =>
ald1 t18 w6 fun t19 =>
acallF pr true a1 [aix v3 0] w6 (fun _ _ => False) fun t23 w7 =>
aidxS 1 t19 (aix v3 0) fun t24 =>
ast 1 t24 t23 w7 fun w8 =>
aar .add (aix v3 0) (.i 1) fun t25 =>
k3 [t25] w8) (aldN 4 t5 w6 fun t26 =>
ast 4 t4 t26 w6 fun w9 =>
aldN 4 t4 w9 fun r0 =>
R (.ret r0) w9)
theorem A113_eq : A113 = fun a0 a1 L R => aex pr ⟨[(7, [15])], [(5, [(0, 0), (1, 0), (2, 0), (3, 0), (4, 0), (5, 0), (6, 0), (7, 2)])]⟩ (bodyOf fn113) (aenv0 [a0, a1]) L (apost pr fn113.results.toList R) := by kernel_rfl
theorem s113 {a0 a1 : D} {L : List Bx} {R : AE → List Bx → Prop} (h : A113 a0 a1 L R) : ASpec pr 113 [a0, a1] L R :=
  aspec_of (A := ⟨[(7, [15])], [(5, [(0, 0), (1, 0), (2, 0), (3, 0), (4, 0), (5, 0), (6, 0), (7, 2)])]⟩) (fn := fn113) 2 mixed Tryz.func113 (by kernel_rfl) (by decide) rfl (by kernel_rfl) (by rw [A113_eq] at h; exact h)
noncomputable abbrev fn116 : Func := Tryz.f116
def A116 (a0 a1 : D) (L : List Bx) (R : AE → List Bx → Prop) : Prop :=
abxv a0 L fun t2 w1 =>
abxv a1 w1 fun t3 w2 =>
aldN 2 t2 w2 fun t5 =>
aldN 4 t3 w2 fun t6 =>
acallW pr 71 [t5, t6] w2 (apn R) fun t7 w3 =>
afield1 1 t7 fun t8 =>
R (.ret t8) w3
theorem A116_eq : A116 = fun a0 a1 L R => aex pr ⟨[], []⟩ (bodyOf fn116) (aenv0 [a0, a1]) L (apost pr fn116.results.toList R) := by kernel_rfl
theorem s116 {a0 a1 : D} {L : List Bx} {R : AE → List Bx → Prop} (h : A116 a0 a1 L R) : ASpec pr 116 [a0, a1] L R :=
  aspec_of (A := ⟨[], []⟩) (fn := fn116) 2 mixed Tryz.func116 (by kernel_rfl) (by decide) rfl (by kernel_rfl) (by rw [A116_eq] at h; exact h)
noncomputable abbrev fn159 : Func := Tryz.f159
def A159 (a0 a1 : D) (L : List Bx) (R : AE → List Bx → Prop) : Prop :=
abxv a0 L fun t2 w1 =>
abxv a1 w1 fun t3 w2 =>
aldN 2 t2 w2 fun t5 =>
aldN 4 t3 w2 fun t6 =>
acallW pr 71 [t5, t6] w2 (apn R) fun t7 w3 =>
afield1 3 t7 fun t8 =>
R (.ret t8) w3
theorem A159_eq : A159 = fun a0 a1 L R => aex pr ⟨[], []⟩ (bodyOf fn159) (aenv0 [a0, a1]) L (apost pr fn159.results.toList R) := by kernel_rfl
theorem s159 {a0 a1 : D} {L : List Bx} {R : AE → List Bx → Prop} (h : A159 a0 a1 L R) : ASpec pr 159 [a0, a1] L R :=
  aspec_of (A := ⟨[], []⟩) (fn := fn159) 2 mixed Tryz.func159 (by kernel_rfl) (by decide) rfl (by kernel_rfl) (by rw [A159_eq] at h; exact h)
noncomputable abbrev fn118 : Func := Tryz.f118
def A118 (a0 a1 : D) (L : List Bx) (R : AE → List Bx → Prop) : Prop :=
abxv a0 L fun t2 w1 =>
abxv a1 w1 fun t3 w2 =>
aldN 2 t2 w2 fun t6 =>
afld 3 t3 fun t7 =>
ald1 t7 w2 fun t8 =>
aidxS 4 t8 (.i 0) fun t9 =>
aldN 4 t9 w2 fun t10 =>
acallS pr 159 [t6, t10] w2 (apn R) fun t11 w3 =>
aldN 2 t2 w3 fun t13 =>
afld 3 t3 fun t14 =>
ald1 t14 w3 fun t15 =>
aidxS 4 t15 (.i 1) fun t16 =>
aldN 4 t16 w3 fun t17 =>
acallS pr 159 [t13, t17] w3 (apn R) fun t18 w4 =>
R (.ret (.tuple [t11, t18])) w4
theorem A118_eq : A118 = fun a0 a1 L R => aex pr ⟨[], [(1, [(0, 0), (1, 0), (2, 0), (3, 0), (4, 0), (5, 1), (6, 2)]), (2, [(0, 0), (1, 0), (2, 0), (3, 0), (4, 0), (5, 0), (6, 1), (7, 2), (8, 2)])]⟩ (bodyOf fn118) (aenv0 [a0, a1]) L (apost pr fn118.results.toList R) := by kernel_rfl
theorem s118 {a0 a1 : D} {L : List Bx} {R : AE → List Bx → Prop} (h : A118 a0 a1 L R) : ASpec pr 118 [a0, a1] L R :=
  aspec_of (A := ⟨[], [(1, [(0, 0), (1, 0), (2, 0), (3, 0), (4, 0), (5, 1), (6, 2)]), (2, [(0, 0), (1, 0), (2, 0), (3, 0), (4, 0), (5, 0), (6, 1), (7, 2), (8, 2)])]⟩) (fn := fn118) 2 mixed Tryz.func118 (by kernel_rfl) (by decide) rfl (by kernel_rfl) (by rw [A118_eq] at h; exact h)
noncomputable abbrev fn164 : Func := Tryz.f164
def A164 (a0 a1 : D) (L : List Bx) (R : AE → List Bx → Prop) : Prop :=
abxv a0 L fun t2 w1 =>
alenL a1 fun t10 =>
alp [.b true, .b false, .i 0] w1 fun v3 w2 k3 =>
aar .lss (aix v3 2) t10 fun t12 =>
acnd t12 (aidxS 4 a1 (aix v3 2) fun t13 =>
aldN 4 t13 w2 fun t14 =>
abx [.i 0, .s ⟨#[]⟩, .i 0, .nil] w2 fun t7 w3 =>
ast 4 t7 t14 w3 fun w4 =>
aldN 2 t2 w4 fun t15 =>
aldN 4 t7 w4 fun t16 =>
acallW pr 71 [t15, t16] w4 (apn R) fun t17 w5 =>
afield1 2 t17 fun t18 =>
acnd (aix v3 0) (acnd (aix v3 1) (aar .add (aix v3 2) (.i 1) fun t27 =>
k3 [t18, .b true, t27] w5) (aar .add (aix v3 2) (.i 1) fun t27 =>
k3 [t18, t18, t27] w5)) (acnd (aix v3 1) (aar .add (aix v3 2) (.i 1) fun t27 =>
k3 [.b false, .b true, t27] w5) (aar .add (aix v3 2) (.i 1) fun t27 =>
k3 [.b false, t18, t27] w5))) (R (.ret (.tuple [aix v3 0, aix v3 1])) w2)
theorem A164_eq : A164 = fun a0 a1 L R => aex pr ⟨[(7, [4, 5, 11])], []⟩ (bodyOf fn164) (aenv0 [a0, a1]) L (apost pr fn164.results.toList R) := by kernel_rfl
theorem s164 {a0 a1 : D} {L : List Bx} {R : AE → List Bx → Prop} (h : A164 a0 a1 L R) : ASpec pr 164 [a0, a1] L R :=
  aspec_of (A := ⟨[(7, [4, 5, 11])], []⟩) (fn := fn164) 2 mixed Tryz.func164 (by kernel_rfl) (by decide) rfl (by kernel_rfl) (by rw [A164_eq] at h; exact h)
noncomputable abbrev fn122 : Func := Tryz.f122
def A122 (a0 a1 : D) (L : List Bx) (R : AE → List Bx → Prop) : Prop :=
abxv a0 L fun t2 w1 =>
abxv a1 w1 fun t3 w2 =>
ajn (fun v24 w3 =>
aldN 2 t2 w3 fun t109 =>
afld 3 t3 fun t110 =>
ald1 t110 w3 fun t111 =>
aidxS 4 t111 (.i 0) fun t112 =>
aldN 4 t112 w3 fun t113 =>
acallS pr 116 [t109, t113] w3 (apn R) fun t114 w4 =>
aldN 2 t2 w4 fun t115 =>
afld 3 t3 fun t116 =>
ald1 t116 w4 fun t117 =>
aidxS 4 t117 (.i 1) fun t118 =>
aldN 4 t118 w4 fun t119 =>
acallS pr 116 [t115, t119] w4 (apn R) fun t120 w5 =>
afld 0 t3 fun t121 =>
ald1 t121 w5 fun t122 =>
aar .eql t122 (.i 22) fun t124 =>
acnd t124 (aar .leq t114 t120 fun t127 =>
R (.ret t127) w5) (aar .eql t122 (.i 23) fun t129 =>
acnd t129 (aar .lss t114 t120 fun t132 =>
R (.ret t132) w5) (aar .eql t114 t120 fun t135 =>
R (.ret t135) w5))) fun j24 =>
afld 0 t3 fun t15 =>
ald1 t15 w2 fun t16 =>
ajn (fun v4 w6 =>
acnd (aix v4 0) (afld 0 t3 fun t20 =>
ald1 t20 w6 fun t21 =>
aar .eql t21 (.i 16) fun t22 =>
R (.ret t22) w6) (aar .eql t16 (.i 18) fun t24 =>
acnd t24 (aldN 2 t2 w6 fun t25 =>
afld 3 t3 fun t26 =>
ald1 t26 w6 fun t27 =>
aidxS 4 t27 (.i 0) fun t28 =>
aldN 4 t28 w6 fun t29 =>
acallS pr 71 [t25, t29] w6 (apn R) fun t30 w7 =>
afield1 2 t30 fun t31 =>
anotb t31 fun t32 =>
R (.ret t32) w7) (aar .eql t16 (.i 19) fun t34 =>
acnd t34 (aldN 2 t2 w6 fun t36 =>
afld 3 t3 fun t37 =>
ald1 t37 w6 fun t38 =>
acallW pr 164 [t36, t38] w6 (apn R) fun t39 w8 =>
aext 0 t39 fun t40 =>
aext 1 t39 fun t41 =>
R (.ret t40) w8) (aar .eql t16 (.i 20) fun t44 =>
acnd t44 (aldN 2 t2 w6 fun t46 =>
afld 3 t3 fun t47 =>
ald1 t47 w6 fun t48 =>
acallW pr 164 [t46, t48] w6 (apn R) fun t49 w9 =>
aext 0 t49 fun t50 =>
aext 1 t49 fun t51 =>
R (.ret t51) w9) (aar .eql t16 (.i 21) fun t54 =>
acnd t54 (aldN 2 t2 w6 fun t55 =>
afld 3 t3 fun t56 =>
ald1 t56 w6 fun t57 =>
aidxS 4 t57 (.i 0) fun t58 =>
aldN 4 t58 w6 fun t59 =>
acallS pr 71 [t55, t59] w6 (apn R) fun t60 w10 =>
afield1 2 t60 fun t61 =>
aldN 2 t2 w10 fun t62 =>
afld 3 t3 fun t63 =>
ald1 t63 w10 fun t64 =>
aidxS 4 t64 (.i 1) fun t65 =>
aldN 4 t65 w10 fun t66 =>
acallS pr 71 [t62, t66] w10 (apn R) fun t67 w11 =>
afield1 2 t67 fun t68 =>
acnd t68 (R (.ret (.b true)) w11) (anotb t61 fun t71 =>
R (.ret t71) w11)) (aar .eql t16 (.i 26) fun t74 =>
acnd t74 (aldN 2 t2 w6 fun t76 =>
aldN 4 t3 w6 fun t77 =>
acallW pr 118 [t76, t77] w6 (apn R) fun t78 w12 =>
aext 0 t78 fun t79 =>
aext 1 t78 fun t80 =>
acallW pr 165 [t79, t80] w12 (apn R) fun t83 w13 =>
R (.ret t83) w13) (aar .eql t16 (.i 27) fun t85 =>
acnd t85 (aldN 2 t2 w6 fun t86 =>
aldN 4 t3 w6 fun t87 =>
acallW pr 118 [t86, t87] w6 (apn R) fun t88 w14 =>
aext 0 t88 fun t89 =>
aext 1 t88 fun t90 =>
acallW pr 166 [t89, t90] w14 (apn R) fun t91 w15 =>
R (.ret t91) w15) (aar .eql t16 (.i 25) fun t93 =>
acnd t93 (aldN 2 t2 w6 fun t94 =>
afld 3 t3 fun t95 =>
ald1 t95 w6 fun t96 =>
aidxS 4 t96 (.i 0) fun t97 =>
aldN 4 t97 w6 fun t98 =>
acallS pr 116 [t94, t98] w6 (apn R) fun t99 w16 =>
aldN 2 t2 w16 fun t100 =>
afld 3 t3 fun t101 =>
ald1 t101 w16 fun t102 =>
aidxS 4 t102 (.i 1) fun t103 =>
aldN 4 t103 w16 fun t104 =>
acallS pr 159 [t100, t104] w16 (apn R) fun t105 w17 =>
aidxS 1 t105 t99 fun t107 =>
ald1 t107 w17 fun t108 =>
R (.ret t108) w17) (j24 [] w6))))))))) fun j4 =>
aar .eql t16 (.i 16) fun t18 =>
acnd t18 (j4 [t18] w2) (aar .eql t16 (.i 17) fun t19 =>
j4 [t19] w2)
theorem A122_eq : A122 = fun a0 a1 L R => aex pr ⟨[(8, [17]), (48, [])], [(6, [(0, 0), (1, 0), (2, 0), (3, 0), (4, 0), (5, 1), (6, 0), (7, 0), (8, 2)]), (14, [(0, 0), (1, 0), (2, 0), (3, 0), (4, 0), (5, 1), (6, 0), (7, 2)]), (15, [(0, 0), (1, 0), (2, 0), (3, 0), (4, 0), (5, 1), (6, 0), (7, 0), (8, 0), (9, 0), (10, 0), (11, 2)]), (22, [(0, 0), (1, 0), (2, 0), (3, 0), (4, 0), (5, 1), (6, 2)]), (23, [(0, 0), (1, 0), (2, 0), (3, 0), (4, 0), (6, 0), (5, 1), (7, 0), (8, 0), (9, 2)]), (24, [(0, 0), (1, 0), (2, 0), (3, 0), (4, 0), (5, 1), (6, 2)]), (25, [(0, 0), (1, 0), (2, 0), (3, 0), (4, 0), (5, 1), (6, 2)])]⟩ (bodyOf fn122) (aenv0 [a0, a1]) L (apost pr fn122.results.toList R) := by kernel_rfl
theorem s122 {a0 a1 : D} {L : List Bx} {R : AE → List Bx → Prop} (h : A122 a0 a1 L R) : ASpec pr 122 [a0, a1] L R :=
  aspec_of (A := ⟨[(8, [17]), (48, [])], [(6, [(0, 0), (1, 0), (2, 0), (3, 0), (4, 0), (5, 1), (6, 0), (7, 0), (8, 2)]), (14, [(0, 0), (1, 0), (2, 0), (3, 0), (4, 0), (5, 1), (6, 0), (7, 2)]), (15, [(0, 0), (1, 0), (2, 0), (3, 0), (4, 0), (5, 1), (6, 0), (7, 0), (8, 0), (9, 0), (10, 0), (11, 2)]), (22, [(0, 0), (1, 0), (2, 0), (3, 0), (4, 0), (5, 1), (6, 2)]), (23, [(0, 0), (1, 0), (2, 0), (3, 0), (4, 0), (6, 0), (5, 1), (7, 0), (8, 0), (9, 2)]), (24, [(0, 0), (1, 0), (2, 0), (3, 0), (4, 0), (5, 1), (6, 2)]), (25, [(0, 0), (1, 0), (2, 0), (3, 0), (4, 0), (5, 1), (6, 2)])]⟩) (fn := fn122) 2 mixed Tryz.func122 (by kernel_rfl) (by decide) rfl (by kernel_rfl) (by rw [A122_eq] at h; exact h)
noncomputable abbrev fn112 : Func := Tryz.f112
def A112 (a0 a1 : D) (L : List Bx) (R : AE → List Bx → Prop) : Prop :=
abxv a0 L fun t2 w1 =>
abxv a1 w1 fun t3 w2 =>
afld 0 t3 fun t7 =>
ald1 t7 w2 fun t8 =>
aar .eql t8 (.i 3) fun t10 =>
acnd t10 (aldN 2 t2 w2 fun t11 =>
afld 3 t3 fun t12 =>
ald1 t12 w2 fun t13 =>
aidxS 4 t13 (.i 0) fun t14 =>
aldN 4 t14 w2 fun t15 =>
acallS pr 159 [t11, t15] w2 (apn R) fun t16 w3 =>
acallS pr 158 [t16] w3 (fun _ _ => False) fun t17 w4 =>
R (.ret t17) w4) (aar .eql t8 (.i 6) fun t19 =>
acnd t19 (afld 2 t3 fun t20 =>
ald1 t20 w2 fun t21 =>
aldN 2 t2 w2 fun t22 =>
afld 3 t3 fun t23 =>
ald1 t23 w2 fun t24 =>
aidxS 4 t24 (.i 0) fun t25 =>
aldN 4 t25 w2 fun t26 =>
acallS pr 116 [t22, t26] w2 (apn R) fun t27 w5 =>
acallS pr 161 [t21, t27] w5 (fun _ _ => False) fun t28 w6 =>
aext 0 t28 fun t29 =>
aext 1 t28 fun t30 =>
acallS pr 160 [t29, t30] w6 (apn R) fun t31 w7 =>
R (.ret t31) w7) (ajn (fun v8 w8 =>
acnd (aix v8 0) (aldN 2 t2 w8 fun t35 =>
afld 3 t3 fun t36 =>
ald1 t36 w8 fun t37 =>
aidxS 4 t37 (.i 0) fun t38 =>
aldN 4 t38 w8 fun t39 =>
acallS pr 116 [t35, t39] w8 (apn R) fun t40 w9 =>
aldN 2 t2 w9 fun t41 =>
afld 3 t3 fun t42 =>
ald1 t42 w9 fun t43 =>
aidxS 4 t43 (.i 1) fun t44 =>
aldN 4 t44 w9 fun t45 =>
acallS pr 116 [t41, t45] w9 (apn R) fun t46 w10 =>
afld 0 t3 fun t47 =>
ald1 t47 w10 fun t48 =>
aar .eql t48 (.i 4) fun t49 =>
acnd t49 (acallW pr 162 [t40, t46] w10 (apn R) fun t52 w11 =>
aext 0 t52 fun t53 =>
aext 1 t52 fun t54 =>
acallW pr 160 [t53, t54] w11 (apn R) fun t55 w12 =>
R (.ret t55) w12) (acallW pr 163 [t40, t46] w10 (apn R) fun t58 w13 =>
aext 0 t58 fun t59 =>
aext 1 t58 fun t60 =>
acallW pr 160 [t59, t60] w13 (apn R) fun t61 w14 =>
R (.ret t61) w14)) (afld 2 t3 fun t62 =>
ald1 t62 w8 fun t63 =>
R (.ret t63) w8)) fun j8 =>
aar .eql t8 (.i 4) fun t33 =>
acnd t33 (j8 [t33] w2) (aar .eql t8 (.i 5) fun t34 =>
j8 [t34] w2)))
theorem A112_eq : A112 = fun a0 a1 L R => aex pr ⟨[(16, [32])], [(3, [(0, 0), (1, 0), (2, 0), (3, 0), (4, 0), (5, 1), (6, 0), (7, 2)]), (5, [(0, 0), (1, 0), (2, 0), (3, 0), (4, 0), (5, 0), (6, 0), (7, 1), (8, 0), (9, 0), (10, 0), (11, 1), (12, 2)]), (8, [(0, 0), (1, 0), (2, 0), (3, 0), (4, 0), (5, 1), (6, 2)]), (9, [(0, 0), (1, 0), (2, 0), (3, 0), (4, 0), (5, 1), (6, 2)])]⟩ (bodyOf fn112) (aenv0 [a0, a1]) L (apost pr fn112.results.toList R) := by kernel_rfl
theorem s112 {a0 a1 : D} {L : List Bx} {R : AE → List Bx → Prop} (h : A112 a0 a1 L R) : ASpec pr 112 [a0, a1] L R :=
  aspec_of (A := ⟨[(16, [32])], [(3, [(0, 0), (1, 0), (2, 0), (3, 0), (4, 0), (5, 1), (6, 0), (7, 2)]), (5, [(0, 0), (1, 0), (2, 0), (3, 0), (4, 0), (5, 0), (6, 0), (7, 1), (8, 0), (9, 0), (10, 0), (11, 1), (12, 2)]), (8, [(0, 0), (1, 0), (2, 0), (3, 0), (4, 0), (5, 1), (6, 2)]), (9, [(0, 0), (1, 0), (2, 0), (3, 0), (4, 0), (5, 1), (6, 2)])]⟩) (fn := fn112) 2 mixed Tryz.func112 (by kernel_rfl) (by decide) rfl (by kernel_rfl) (by rw [A112_eq] at h; exact h)
noncomputable abbrev fn71 : Func := Tryz.f71
def A71 (a0 a1 : D) (L : List Bx) (R : AE → List Bx → Prop) : Prop :=
abxv a0 L fun t2 w1 =>
abxv a1 w1 fun t3 w2 =>
abx [.i 0, .i 0, .b false, .nil] w2 fun t4 w3 =>
afld 0 t3 fun t12 =>
ald1 t12 w3 fun t13 =>
aar .eql t13 (.i 2) fun t15 =>
acnd t15 (aldN 2 t2 w3 fun t16 =>
aldN 4 t3 w3 fun t17 =>
acallW pr 111 [t16, t17, .i 1] w3 (apn R) fun t18 w4 =>
ast 4 t4 t18 w4 fun w5 =>
aldN 4 t4 w5 fun r0 =>
R (.ret r0) w5) (aar .eql t13 (.i 7) fun t20 =>
acnd t20 (aldN 2 t2 w3 fun t21 =>
aldN 4 t3 w3 fun t22 =>
acallW pr 111 [t21, t22, .i 2] w3 (apn R) fun t23 w6 =>
ast 4 t4 t23 w6 fun w7 =>
aldN 4 t4 w7 fun r0 =>
R (.ret r0) w7) (aar .eql t13 (.i 14) fun t25 =>
acnd t25 (aldN 2 t2 w3 fun t26 =>
aldN 4 t3 w3 fun t27 =>
acallW pr 111 [t26, t27, .i 3] w3 (apn R) fun t28 w8 =>
ast 4 t4 t28 w8 fun w9 =>
aldN 4 t4 w9 fun r0 =>
R (.ret r0) w9) (aar .eql t13 (.i 15) fun t30 =>
acnd t30 (aldN 2 t2 w3 fun t31 =>
aldN 4 t3 w3 fun t32 =>
acallW pr 111 [t31, t32, .i 4] w3 (apn R) fun t33 w10 =>
ast 4 t4 t33 w10 fun w11 =>
aldN 4 t4 w11 fun r0 =>
R (.ret r0) w11) (ajn (fun v15 w12 =>
acnd (aix v15 0) (aldN 2 t2 w12 fun t40 =>
aldN 4 t3 w12 fun t41 =>
acallW pr 112 [t40, t41] w12 (apn R) fun t42 w13 =>
abld [.i 0, .i 0, .b false, .nil] [(0, 1, .i 1), (1, 1, t42)] fun t43 =>
ast 4 t4 t43 w13 fun w14 =>
aldN 4 t4 w14 fun r0 =>
R (.ret r0) w14) (aar .eql t13 (.i 8) fun t45 =>
acnd t45 (aldN 2 t2 w12 fun t46 =>
acallW pr 113 [t46, .fn 114 [] []] w12 (apn R) fun t47 w15 =>
ast 4 t4 t47 w15 fun w16 =>
aldN 4 t4 w16 fun r0 =>
R (.ret r0) w16) (aar .eql t13 (.i 9) fun t49 =>
acnd t49 (aldN 2 t2 w12 fun t50 =>
acallW pr 113 [t50, .fn 115 [] []] w12 (apn R) fun t51 w17 =>
ast 4 t4 t51 w17 fun w18 =>
aldN 4 t4 w18 fun r0 =>
R (.ret r0) w18) (aar .eql t13 (.i 10) fun t53 =>
acnd t53 (aldN 2 t2 w12 fun t54 =>
afld 3 t3 fun t55 =>
ald1 t55 w12 fun t56 =>
aidxS 4 t56 (.i 0) fun t57 =>
aldN 4 t57 w12 fun t58 =>
acallS pr 116 [t54, t58] w12 (apn R) fun t59 w19 =>
abx [.i 0] w19 fun t5 w20 =>
ast 1 t5 t59 w20 fun w21 =>
aldN 2 t2 w21 fun t60 =>
acallW pr 113 [t60, .fn 117 [] [t5]] w21 (apn R) fun t62 w22 =>
ast 4 t4 t62 w22 fun w23 =>
aldN 4 t4 w23 fun r0 =>
R (.ret r0) w23) (aar .eql t13 (.i 11) fun t64 =>
acnd t64 (aldN 2 t2 w12 fun t66 =>
aldN 4 t3 w12 fun t67 =>
acallW pr 118 [t66, t67] w12 (apn R) fun t68 w24 =>
aext 0 t68 fun t69 =>
aext 1 t68 fun t70 =>
abx [.nil] w24 fun t6 w25 =>
abx [.nil] w25 fun t7 w26 =>
ast 1 t6 t69 w26 fun w27 =>
ast 1 t7 t70 w27 fun w28 =>
aldN 2 t2 w28 fun t71 =>
acallW pr 113 [t71, .fn 119 [] [t6, t7]] w28 (apn R) fun t73 w29 =>
ast 4 t4 t73 w29 fun w30 =>
aldN 4 t4 w30 fun r0 =>
R (.ret r0) w30) (aar .eql t13 (.i 12) fun t75 =>
acnd t75 (aldN 2 t2 w12 fun t77 =>
aldN 4 t3 w12 fun t78 =>
acallW pr 118 [t77, t78] w12 (apn R) fun t79 w31 =>
aext 0 t79 fun t80 =>
aext 1 t79 fun t81 =>
abx [.nil] w31 fun t8 w32 =>
abx [.nil] w32 fun t9 w33 =>
ast 1 t8 t80 w33 fun w34 =>
ast 1 t9 t81 w34 fun w35 =>
aldN 2 t2 w35 fun t82 =>
acallW pr 113 [t82, .fn 120 [] [t8, t9]] w35 (apn R) fun t84 w36 =>
ast 4 t4 t84 w36 fun w37 =>
aldN 4 t4 w37 fun r0 =>
R (.ret r0) w37) (aar .eql t13 (.i 13) fun t86 =>
acnd t86 (aldN 2 t2 w12 fun t88 =>
aldN 4 t3 w12 fun t89 =>
acallW pr 118 [t88, t89] w12 (apn R) fun t90 w38 =>
aext 0 t90 fun t91 =>
aext 1 t90 fun t92 =>
abx [.nil] w38 fun t10 w39 =>
abx [.nil] w39 fun t11 w40 =>
ast 1 t10 t91 w40 fun w41 =>
ast 1 t11 t92 w41 fun w42 =>
aldN 2 t2 w42 fun t93 =>
acallW pr 113 [t93, .fn 121 [] [t10, t11]] w42 (apn R) fun t95 w43 =>
ast 4 t4 t95 w43 fun w44 =>
aldN 4 t4 w44 fun r0 =>
R (.ret r0) w44) (aldN 2 t2 w12 fun t96 =>
aldN 4 t3 w12 fun t97 =>
acallW pr 122 [t96, t97] w12 (apn R) fun t98 w45 =>
abld [.i 0, .i 0, .b false, .nil] [(0, 1, .i 4), (2, 1, t98)] fun t99 =>
ast 4 t4 t99 w45 fun w46 =>
aldN 4 t4 w46 fun r0 =>
R (.ret r0) w46)))))))) fun j15 =>
aar .eql t13 (.i 1) fun t35 =>
acnd t35 (j15 [t35] w3) (aar .eql t13 (.i 3) fun t36 =>
acnd t36 (j15 [t36] w3) (aar .eql t13 (.i 4) fun t37 =>
acnd t37 (j15 [t37] w3) (aar .eql t13 (.i 5) fun t38 =>
acnd t38 (j15 [t38] w3) (aar .eql t13 (.i 6) fun t39 =>
j15 [t39] w3))))))))
theorem A71_eq : A71 = fun a0 a1 L R => aex pr ⟨[(30, [34])], [(21, [(0, 0), (1, 0), (2, 0), (3, 0), (4, 0), (5, 6), (6, 3), (7, 2)])]⟩ (bodyOf fn71) (aenv0 [a0, a1]) L (apost pr fn71.results.toList R) := by kernel_rfl
theorem s71 {a0 a1 : D} {L : List Bx} {R : AE → List Bx → Prop} (h : A71 a0 a1 L R) : ASpec pr 71 [a0, a1] L R :=
  aspec_of (A := ⟨[(30, [34])], [(21, [(0, 0), (1, 0), (2, 0), (3, 0), (4, 0), (5, 6), (6, 3), (7, 2)])]⟩) (fn := fn71) 2 mixed Tryz.func71 (by kernel_rfl) (by decide) rfl (by kernel_rfl) (by rw [A71_eq] at h; exact h)
noncomputable abbrev fn70 : Func := Tryz.f70
def A70 (a0 a1 : D) (m : Option D) (L : List Bx) (R : Option D → List Bx → Prop) : Prop :=
aeqI .neq ((recD m)) (.val (.nilIface)) fun t7 =>
acnd t7 (atas 129 (.i 0) ((recD m)) true fun t10 =>
aext 0 t10 fun t11 =>
aext 1 t10 fun t12 =>
anotb t12 fun t14 =>
acnd t14 (apnF ((recD m))) (abld [.i 0, .i 0, .b false, .nil] [] fun t16 =>
ast 4 a0 t16 L fun w1 =>
ast 1 a1 t11 w1 fun w2 =>
R none w2)) (R none L)
theorem A70_eq : A70 = fun a0 a1 m L R => aexR pr ⟨[], []⟩ R m (bodyOf fn70) (aenv0 [a0, a1]) L := by kernel_rfl
theorem s70 {a0 a1 : D} {m : Option D} {L : List Bx} {R : Option D → List Bx → Prop} (h : A70 a0 a1 m L R) : ADef pr 70 [a0, a1] m L R :=
  adef_of (A := ⟨[], []⟩) (fn := fn70) 2 mixed Tryz.func70 (by kernel_rfl) (by decide) rfl rfl (by kernel_rfl) (by rw [A70_eq] at h; exact h)
noncomputable abbrev fn31 : Func := Tryz.f31
def K31 (t4 t5 : D) (R : AE → List Bx → Prop) (m : Option D) (L : List Bx) : Prop :=
ADef pr 70 [t4, t5] m L fun m w => aend R m w (aldN 4 t4 w fun r0 =>
ald1 t5 w fun r1 =>
R (.ret (.tuple [r0, r1])) w)
def A31 (a0 a1 : D) (L : List Bx) (R : AE → List Bx → Prop) : Prop :=
abxv a0 L fun t2 w1 =>
abxv a1 w1 fun t3 w2 =>
abx [.i 0, .i 0, .b false, .nil] w2 fun t4 w3 =>
abx [.i 0] w3 fun t5 w4 =>
aldN 4 t2 w4 fun t9 =>
acallW pr 69 [t9] w4 (apn R) fun t10 w5 =>
aext 0 t10 fun t11 =>
aext 1 t10 fun t12 =>
aar .neq t12 (.i 0) fun t14 =>
acnd t14 (abld [.i 0, .i 0, .b false, .nil] [] fun t15 =>
ast 4 t4 t15 w5 fun w6 =>
ast 1 t5 t12 w6 fun w7 =>
aldN 4 t4 w7 fun r0 =>
ald1 t5 w7 fun r1 =>
R (.ret (.tuple [r0, r1])) w7) (aldN 2 t3 w5 fun t17 =>
acallW pr 23 [t17] w5 (apn R) fun t18 w8 =>
anotb t18 fun t19 =>
acnd t19 (abld [.i 0, .i 0, .b false, .nil] [] fun t20 =>
ast 4 t4 t20 w8 fun w9 =>
ast 1 t5 (.i 1) w9 fun w10 =>
aldN 4 t4 w10 fun r0 =>
ald1 t5 w10 fun r1 =>
R (.ret (.tuple [r0, r1])) w10) (aldN 2 t3 w8 fun t22 =>
abld [.i 0, .nil] [(0, 2, t22)] fun t23 =>
aldN 4 t2 w8 fun t24 =>
acallW pr 71 [t23, t24] w8 (fun c w => K31 t4 t5 R (some c) w) fun t25 w11 =>
ast 4 t4 t25 w11 fun w12 =>
ast 1 t5 (.i 0) w12 fun w13 =>
K31 t4 t5 R none w13))
theorem A31_eq : A31 = fun a0 a1 L R => aexD pr ⟨[], []⟩ fn31.results.toList R (bodyOf fn31) (aenv0 [a0, a1]) L := by kernel_rfl
theorem s31 {a0 a1 : D} {L : List Bx} {R : AE → List Bx → Prop} (h : A31 a0 a1 L R) : ASpec pr 31 [a0, a1] L R :=
  aspec_ofD (A := ⟨[], []⟩) (fn := fn31) 2 mixed Tryz.func31 (by kernel_rfl) (by decide) rfl (by kernel_rfl) (by rw [A31_eq] at h; exact h)
end Go.Proofs.YtdalobojhfafbaaGreatDoor
