/- What must hold ahead of a call, function by function: printed by a program. -/
import Derived.Test.YtlonmopppgadgaaDoorProg
import Derived.Test.YtlonmopppgadgaaDoorA9
import Derived.KernelRfl
set_option maxRecDepth 100000
set_option linter.unusedVariables false
namespace Go.Proofs.YtlonmopppgadgaaDoor
open Go Go.V
noncomputable abbrev pr : Program := Tryd.prog
theorem mixed : pr.follows .mixedOrders = true := by kernel_rfl
noncomputable abbrev fn48 : Func := Tryd.f48
/- (*ashlar/term.measure).of -/
def A48 (a0 a1 a2 : D) (L : List Bx) (R : AE → List Bx → Prop) : Prop :=
abxv a1 L fun t4 w1 =>
anilc a0 fun t9 =>
afld 0 t9 fun t10 =>
ald1 t10 w1 fun t11 =>
aar .add t11 (.i 1) fun t12 =>
anilc a0 fun t13 =>
afld 0 t13 fun t14 =>
ast 1 t14 t12 w1 fun w2 =>
anilc a0 fun t17 =>
afld 1 t17 fun t18 =>
ald1 t18 w2 fun t19 =>
amax2 t19 a2 fun t21 =>
anilc a0 fun t22 =>
afld 1 t22 fun t23 =>
ast 1 t23 t21 w2 fun w3 =>
afld 3 t4 fun t24 =>
ald1 t24 w3 fun t25 =>
alenL t25 fun t26 =>
alp [.i 0] w3 fun v4 w4 k4 =>
aar .lss (aix v4 0) t26 fun t28 =>
acnd t28 (aidxS 4 t25 (aix v4 0) fun t29 =>
aldN 4 t29 w4 fun t30 =>
abx [.i 0, .s ⟨#[]⟩, .i 0, .nil] w4 fun t7 w5 =>
ast 4 t7 t30 w5 fun w6 =>
anilc a0 fun t32 =>
afld 0 t32 fun t33 =>
ald1 t33 w6 fun t34 =>
aar .gtr t34 (.i 2000) fun t35 =>
acnd t35 (R (.ret (.tuple [])) w6) (aar .gtr a2 (.i 100) fun t38 =>
acnd t38 (R (.ret (.tuple [])) w6) (aldN 4 t7 w6 fun t41 =>
aar .add a2 (.i 1) fun t43 =>
acallW pr 48 [a0, t41, t43] w6 (apn R) fun t44 w7 =>
aar .add (aix v4 0) (.i 1) fun t45 =>
k4 [t45] w7))) (R (.ret (.tuple [])) w4)
theorem A48_eq : A48 = fun a0 a1 a2 L R => aex pr ⟨[(9, [27])], []⟩ (bodyOf fn48) (aenv0 [a0, a1, a2]) L (apost pr fn48.results.toList R) := by kernel_rfl
theorem s48 {a0 a1 a2 : D} {L : List Bx} {R : AE → List Bx → Prop} (h : A48 a0 a1 a2 L R) : ASpec pr 48 [a0, a1, a2] L R :=
  aspec_of (A := ⟨[(9, [27])], []⟩) (fn := fn48) 3 mixed Tryd.func48 (by kernel_rfl) (by decide) rfl (by kernel_rfl) (by rw [A48_eq] at h; exact h)
noncomputable abbrev fn51 : Func := Tryd.f51
/- ashlar/term.deep -/
def A51 (a0 a1 : D) (L : List Bx) (R : AE → List Bx → Prop) : Prop :=
abxv a0 L fun t2 w1 =>
afld 3 t2 fun t8 =>
ald1 t8 w1 fun t9 =>
alenL t9 fun t10 =>
alp [.i 0, .i 0] w1 fun v3 w2 k3 =>
aar .lss (aix v3 1) t10 fun t12 =>
acnd t12 (aidxS 4 t9 (aix v3 1) fun t13 =>
aldN 4 t13 w2 fun t14 =>
abx [.i 0, .s ⟨#[]⟩, .i 0, .nil] w2 fun t7 w3 =>
ast 4 t7 t14 w3 fun w4 =>
aar .sub a1 (.i 1) fun t17 =>
aar .eql (aix v3 0) t17 fun t18 =>
acnd t18 (aar .add (aix v3 0) (.i 1) fun t27 =>
R (.ret t27) w4) (aldN 4 t7 w4 fun t20 =>
aar .sub a1 (.i 1) fun t22 =>
acallW pr 51 [t20, t22] w4 (apn R) fun t23 w5 =>
amax2 (aix v3 0) t23 fun t24 =>
aar .add (aix v3 1) (.i 1) fun t25 =>
k3 [t24, t25] w5)) (aar .add (aix v3 0) (.i 1) fun t27 =>
R (.ret t27) w2)
theorem A51_eq : A51 = fun a0 a1 L R => aex pr ⟨[(7, [5, 11])], []⟩ (bodyOf fn51) (aenv0 [a0, a1]) L (apost pr fn51.results.toList R) := by kernel_rfl
theorem s51 {a0 a1 : D} {L : List Bx} {R : AE → List Bx → Prop} (h : A51 a0 a1 L R) : ASpec pr 51 [a0, a1] L R :=
  aspec_of (A := ⟨[(7, [5, 11])], []⟩) (fn := fn51) 2 mixed Tryd.func51 (by kernel_rfl) (by decide) rfl (by kernel_rfl) (by rw [A51_eq] at h; exact h)
noncomputable abbrev fn52 : Func := Tryd.f52
/- ashlar/term.Size$1 -/
def A52 (a0 a1 a2 : D) (L : List Bx) (R : AE → List Bx → Prop) : Prop :=
abxv a0 L fun t3 w1 =>
ald1 a1 w1 fun t6 =>
aar .add t6 (.i 1) fun t7 =>
ast 1 a1 t7 w1 fun w2 =>
ald1 a1 w2 fun t8 =>
aar .gtr t8 (.i 2000) fun t9 =>
acnd t9 (R (.ret (.tuple [])) w2) (afld 3 t3 fun t10 =>
ald1 t10 w2 fun t11 =>
alenL t11 fun t12 =>
alp [.i 0] w2 fun v4 w3 k4 =>
aar .lss (aix v4 0) t12 fun t14 =>
acnd t14 (aidxS 4 t11 (aix v4 0) fun t15 =>
aldN 4 t15 w3 fun t16 =>
abx [.i 0, .s ⟨#[]⟩, .i 0, .nil] w3 fun t5 w4 =>
ast 4 t5 t16 w4 fun w5 =>
ald1 a1 w5 fun t17 =>
aar .leq t17 (.i 2000) fun t18 =>
acnd t18 (ald1 a2 w5 fun t19 =>
aldN 4 t5 w5 fun t20 =>
acallF pr false t19 [t20] w5 (apn R) fun t21 w6 =>
aar .add (aix v4 0) (.i 1) fun t22 =>
k4 [t22] w6) (aar .add (aix v4 0) (.i 1) fun t22 =>
k4 [t22] w5)) (R (.ret (.tuple [])) w3))
theorem A52_eq : A52 = fun a0 a1 a2 L R => aex pr ⟨[(9, [13])], []⟩ (bodyOf fn52) (aenv0 [a0, a1, a2]) L (apost pr fn52.results.toList R) := by kernel_rfl
theorem s52 {a0 a1 a2 : D} {L : List Bx} {R : AE → List Bx → Prop} (h : A52 a0 a1 a2 L R) : ASpec pr 52 [a0, a1, a2] L R :=
  aspec_of (A := ⟨[(9, [13])], []⟩) (fn := fn52) 3 mixed Tryd.func52 (by kernel_rfl) (by decide) rfl (by kernel_rfl) (by rw [A52_eq] at h; exact h)
noncomputable abbrev fn24 : Func := Tryd.f24
/- ashlar/term.Deep -/
def A24 (a0 : D) (L : List Bx) (R : AE → List Bx → Prop) : Prop :=
abxv a0 L fun t1 w1 =>
aldN 4 t1 w1 fun t3 =>
acallW pr 51 [t3, .i 101] w1 (apn R) fun t4 w2 =>
R (.ret t4) w2
theorem A24_eq : A24 = fun a0 L R => aex pr ⟨[], []⟩ (bodyOf fn24) (aenv0 [a0]) L (apost pr fn24.results.toList R) := by kernel_rfl
theorem s24 {a0 : D} {L : List Bx} {R : AE → List Bx → Prop} (h : A24 a0 L R) : ASpec pr 24 [a0] L R :=
  aspec_of (A := ⟨[], []⟩) (fn := fn24) 1 mixed Tryd.func24 (by kernel_rfl) (by decide) rfl (by kernel_rfl) (by rw [A24_eq] at h; exact h)
noncomputable abbrev fn25 : Func := Tryd.f25
/- ashlar/term.Size -/
def A25 (a0 : D) (L : List Bx) (R : AE → List Bx → Prop) : Prop :=
abxv a0 L fun t1 w1 =>
abx [.i 0] w1 fun t3 w2 =>
ast 1 t3 (.i 0) w2 fun w3 =>
abx [.val (.nilFunc)] w3 fun t4 w4 =>
ast 1 t4 (.fn 52 [] [t3, t4]) w4 fun w5 =>
ald1 t4 w5 fun t6 =>
aldN 4 t1 w5 fun t7 =>
acallF pr false t6 [t7] w5 (apn R) fun t8 w6 =>
ald1 t3 w6 fun t9 =>
R (.ret t9) w6
theorem A25_eq : A25 = fun a0 L R => aex pr ⟨[], []⟩ (bodyOf fn25) (aenv0 [a0]) L (apost pr fn25.results.toList R) := by kernel_rfl
theorem s25 {a0 : D} {L : List Bx} {R : AE → List Bx → Prop} (h : A25 a0 L R) : ASpec pr 25 [a0] L R :=
  aspec_of (A := ⟨[], []⟩) (fn := fn25) 1 mixed Tryd.func25 (by kernel_rfl) (by decide) rfl (by kernel_rfl) (by rw [A25_eq] at h; exact h)
noncomputable abbrev fn23 : Func := Tryd.f23
/- ashlar/term.Sort -/
def A23 (a0 : D) (L : List Bx) (R : AE → List Bx → Prop) : Prop :=
abxv a0 L fun t1 w1 =>
abld [.i 0, .i 0] [] fun t6 =>
abxv t6 w1 fun t7 w2 =>
ajn (fun v5 w3 =>
acallW pr 49 [] w3 (apn R) fun t23 w4 =>
abx (vals (reps 29 [.int .i64 0, .bool false, .bool false, .slice none 0 0, .bool false])) w4 fun t5 w5 =>
ast 145 t5 t23 w5 fun w6 =>
aldN 4 t1 w6 fun t24 =>
acallW pr 50 [t24, t5, .i 0] w6 (apn R) fun t25 w7 =>
anotb t25 fun t26 =>
acnd t26 (R (.ret (.tuple [.i 0, .i 3])) w7) (afld 0 t1 fun t27 =>
ald1 t27 w7 fun t28 =>
aidxP 29 5 t5 t28 fun t29 =>
afld 0 t29 fun t30 =>
ald1 t30 w7 fun t31 =>
R (.ret (.tuple [t31, .i 0])) w7)) fun j5 =>
aldN 4 t1 w2 fun t9 =>
acallW pr 48 [t7, t9, .i 1] w2 (apn R) fun t10 w8 =>
anilc t7 fun t12 =>
afld 0 t12 fun t13 =>
ald1 t13 w8 fun t14 =>
aar .gtr t14 (.i 2000) fun t15 =>
acnd t15 (R (.ret (.tuple [.i 0, .i 7])) w8) (anilc t7 fun t18 =>
afld 1 t18 fun t19 =>
ald1 t19 w8 fun t20 =>
aar .gtr t20 (.i 100) fun t21 =>
acnd t21 (R (.ret (.tuple [.i 0, .i 7])) w8) (j5 [] w8))
theorem A23_eq : A23 = fun a0 L R => aex pr ⟨[(10, [])], []⟩ (bodyOf fn23) (aenv0 [a0]) L (apost pr fn23.results.toList R) := by kernel_rfl
theorem s23 {a0 : D} {L : List Bx} {R : AE → List Bx → Prop} (h : A23 a0 L R) : ASpec pr 23 [a0] L R :=
  aspec_of (A := ⟨[(10, [])], []⟩) (fn := fn23) 1 mixed Tryd.func23 (by kernel_rfl) (by decide) rfl (by kernel_rfl) (by rw [A23_eq] at h; exact h)
noncomputable abbrev fn49 : Func := Tryd.f49
/- ashlar/term.shapes -/
def A49 (L : List Bx) (R : AE → List Bx → Prop) : Prop :=
abx (vals (reps 29 [.int .i64 0, .bool false, .bool false, .slice none 0 0, .bool false])) L fun t0 w1 =>
abld [.i 0, .b false, .b false, .nil, .b false] [(0, 1, .i 1), (2, 1, .b true)] fun t2 =>
abld [.i 0, .b false, .b false, .nil, .b false] [(0, 1, .i 1), (1, 1, .b true)] fun t3 =>
abldS 3 1 1 [.i 0] [(0, 1, .i 2)] w1 fun t4 w2 =>
abld [.i 0, .b false, .b false, .nil, .b false] [(0, 1, .i 1), (3, 1, t4)] fun t5 =>
acallW pr 84 [.i 1, .i 1] w2 (apn R) fun t7 w3 =>
acallW pr 84 [.i 1, .i 1] w3 (apn R) fun t9 w4 =>
abldS 3 1 1 [.i 0] [(0, 1, .i 1)] w4 fun t10 w5 =>
abld [.i 0, .b false, .b false, .nil, .b false] [(0, 1, .i 1), (2, 1, .b true), (3, 1, t10)] fun t11 =>
abld [.i 0, .b false, .b false, .nil, .b false] [(0, 1, .i 2), (1, 1, .b true)] fun t12 =>
abld [.i 0, .b false, .b false, .nil, .b false] [(0, 1, .i 2)] fun t13 =>
abld [.i 0, .b false, .b false, .nil, .b false] [(0, 1, .i 2)] fun t14 =>
abldS 3 1 1 [.i 0] [(0, 1, .i 3)] w5 fun t15 w6 =>
abld [.i 0, .b false, .b false, .nil, .b false] [(0, 1, .i 2), (3, 1, t15)] fun t16 =>
acallW pr 84 [.i 2, .i 2] w6 (apn R) fun t18 w7 =>
acallW pr 84 [.i 2, .i 2] w7 (apn R) fun t20 w8 =>
acallW pr 84 [.i 2, .i 2] w8 (apn R) fun t22 w9 =>
abld [.i 0, .b false, .b false, .nil, .b false] [(0, 1, .i 3), (1, 1, .b true)] fun t23 =>
abld [.i 0, .b false, .b false, .nil, .b false] [(0, 1, .i 4), (1, 1, .b true)] fun t24 =>
abld [.i 0, .b false, .b false, .nil, .b false] [(0, 1, .i 4)] fun t25 =>
abld [.i 0, .b false, .b false, .nil, .b false] [(0, 1, .i 4)] fun t26 =>
abldS 3 1 1 [.i 0] [(0, 1, .i 4)] w9 fun t27 w10 =>
abld [.i 0, .b false, .b false, .nil, .b false] [(0, 1, .i 4), (3, 1, t27)] fun t28 =>
abldS 3 1 1 [.i 0] [(0, 1, .i 4)] w10 fun t29 w11 =>
abld [.i 0, .b false, .b false, .nil, .b false] [(0, 1, .i 4), (3, 1, t29), (4, 1, .b true)] fun t30 =>
abldS 3 1 1 [.i 0] [(0, 1, .i 4)] w11 fun t31 w12 =>
abld [.i 0, .b false, .b false, .nil, .b false] [(0, 1, .i 4), (3, 1, t31), (4, 1, .b true)] fun t32 =>
acallW pr 84 [.i 4, .i 4] w12 (apn R) fun t34 w13 =>
acallW pr 84 [.i 4, .i 1] w13 (apn R) fun t36 w14 =>
acallW pr 84 [.i 4, .i 1] w14 (apn R) fun t38 w15 =>
acallW pr 84 [.i 4, .i 1] w15 (apn R) fun t40 w16 =>
abldS 3 1 2 [.i 0, .i 0] [(0, 1, .i 3), (1, 1, .i 2)] w16 fun t41 w17 =>
abld [.i 0, .b false, .b false, .nil, .b false] [(0, 1, .i 4), (3, 1, t41)] fun t42 =>
acallW pr 84 [.i 4, .i 2] w17 (apn R) fun t44 w18 =>
acallW pr 84 [.i 4, .i 2] w18 (apn R) fun t46 w19 =>
acallW pr 84 [.i 4, .i 3] w19 (apn R) fun t48 w20 =>
abld (vals (reps 29 [.int .i64 0, .bool false, .bool false, .slice none 0 0, .bool false])) [(5, 5, t2), (10, 5, t3), (15, 5, t5), (20, 5, t7), (25, 5, t9), (30, 5, t11), (35, 5, t12), (40, 5, t13), (45, 5, t14), (50, 5, t16), (55, 5, t18), (60, 5, t20), (65, 5, t22), (70, 5, t23), (75, 5, t24), (80, 5, t25), (85, 5, t26), (90, 5, t28), (95, 5, t30), (100, 5, t32), (105, 5, t34), (110, 5, t36), (115, 5, t38), (120, 5, t40), (125, 5, t42), (130, 5, t44), (135, 5, t46), (140, 5, t48)] fun t49 =>
ast 145 t0 t49 w20 fun w21 =>
aldN 145 t0 w21 fun r0 =>
R (.ret r0) w21
theorem A49_eq : A49 = fun  L R => aex pr ⟨[], []⟩ (bodyOf fn49) (aenv0 []) L (apost pr fn49.results.toList R) := by kernel_rfl
theorem s49 {L : List Bx} {R : AE → List Bx → Prop} (h : A49  L R) : ASpec pr 49 [] L R :=
  aspec_of (A := ⟨[], []⟩) (fn := fn49) 0 mixed Tryd.func49 (by kernel_rfl) (by decide) rfl (by kernel_rfl) (by rw [A49_eq] at h; exact h)
noncomputable abbrev fn50 : Func := Tryd.f50
/- ashlar/term.right -/
def A50 (a0 a1 a2 : D) (L : List Bx) (R : AE → List Bx → Prop) : Prop :=
abxv a0 L fun t3 w1 =>
ajn (fun v3 w2 =>
afld 0 t3 fun t19 =>
ald1 t19 w2 fun t20 =>
anilc a1 fun t21 =>
aidxP 29 5 t21 t20 fun t22 =>
aldN 5 t22 w2 fun t23 =>
abx [.i 0, .b false, .b false, .nil, .b false] w2 fun t7 w3 =>
ast 5 t7 t23 w3 fun w4 =>
ajn (fun v6 w5 =>
afld 3 t3 fun t76 =>
ald1 t76 w5 fun t77 =>
alenL t77 fun t78 =>
alp [.i 0] w5 fun v7 w6 k7 =>
aar .lss (aix v7 0) t78 fun t80 =>
acnd t80 (aidxS 4 t77 (aix v7 0) fun t82 =>
aldN 4 t82 w6 fun t83 =>
abx [.i 0, .s ⟨#[]⟩, .i 0, .nil] w6 fun t9 w7 =>
ast 4 t9 t83 w7 fun w8 =>
ajn (fun v11 w9 =>
aldN 4 t9 w9 fun t86 =>
afld 3 t7 fun t88 =>
ald1 t88 w9 fun t89 =>
aidxS 1 t89 (aix v11 0) fun t91 =>
ald1 t91 w9 fun t92 =>
acallS pr 50 [t86, a1, t92] w9 (fun _ _ => False) fun t93 w10 =>
anotb t93 fun t94 =>
acnd t94 (R (.ret (.b false)) w10) (aar .add (aix v7 0) (.i 1) fun t95 =>
k7 [t95] w10)) fun j11 =>
afld 4 t7 fun t84 =>
ald1 t84 w8 fun t85 =>
acnd t85 (j11 [.i 0] w8) (j11 [aix v7 0] w8)) (R (.ret (.b true)) w6)) fun j6 =>
aar .neq a2 (.i 0) fun t25 =>
ajn (fun y31 w11 =>
acnd (aix y31 0) (R (.ret (.b false)) w11) (afld 1 t7 fun t33 =>
ald1 t33 w11 fun t34 =>
ajn (fun y40 w12 =>
acnd (aix y40 0) (R (.ret (.b false)) w12) (afld 1 t7 fun t43 =>
ald1 t43 w12 fun t44 =>
anotb t44 fun t45 =>
ajn (fun y50 w13 =>
acnd (aix y50 0) (R (.ret (.b false)) w13) (afld 2 t7 fun t53 =>
ald1 t53 w13 fun t54 =>
anotb t54 fun t55 =>
ajn (fun y60 w14 =>
acnd (aix y60 0) (R (.ret (.b false)) w14) (afld 4 t7 fun t63 =>
ald1 t63 w14 fun t64 =>
anotb t64 fun t65 =>
ajn (fun y74 w15 =>
acnd (aix y74 0) (R (.ret (.b false)) w15) (j6 [] w15)) fun j74 =>
acnd t65 (afld 3 t3 fun t67 =>
ald1 t67 w14 fun t68 =>
alenL t68 fun t69 =>
afld 3 t7 fun t70 =>
ald1 t70 w14 fun t71 =>
alenL t71 fun t72 =>
aar .neq t69 t72 fun t73 =>
j74 [t73] w14) (j74 [.b false] w14))) fun j60 =>
acnd t55 (afld 2 t3 fun t57 =>
ald1 t57 w13 fun t58 =>
aar .neq t58 (.i 0) fun t59 =>
j60 [t59] w13) (j60 [.b false] w13))) fun j50 =>
acnd t45 (afld 1 t3 fun t47 =>
ald1 t47 w12 fun t48 =>
aar .neq t48 (.s ⟨#[]⟩) fun t49 =>
j50 [t49] w12) (j50 [.b false] w12))) fun j40 =>
acnd t34 (afld 1 t3 fun t36 =>
ald1 t36 w11 fun t37 =>
acallW pr 41 [t37] w11 (apn R) fun t38 w16 =>
anotb t38 fun t39 =>
j40 [t39] w16) (j40 [.b false] w11))) fun j31 =>
acnd t25 (afld 0 t7 fun t27 =>
ald1 t27 w4 fun t28 =>
aar .neq t28 a2 fun t30 =>
j31 [t30] w4) (j31 [.b false] w4)) fun j3 =>
afld 0 t3 fun t10 =>
ald1 t10 w1 fun t11 =>
aar .lss t11 (.i 1) fun t12 =>
acnd t12 (R (.ret (.b false)) w1) (afld 0 t3 fun t14 =>
ald1 t14 w1 fun t15 =>
aar .gtr t15 (.i 28) fun t16 =>
acnd t16 (R (.ret (.b false)) w1) (j3 [] w1))
theorem A50_eq : A50 = fun a0 a1 a2 L R => aex pr ⟨[(6, []), (12, []), (15, [79]), (22, [8]), (3000031, []), (3000040, []), (3000050, []), (3000060, []), (3000074, [])], [(3, [(0, 0), (1, 0), (2, 0), (3, 0), (4, 0), (5, 0), (6, 3), (7, 2)]), (11, [(0, 0), (1, 0), (2, 0), (3, 0), (4, 0), (5, 0), (6, 0), (7, 0), (8, 0)])]⟩ (bodyOf fn50) (aenv0 [a0, a1, a2]) L (apost pr fn50.results.toList R) := by kernel_rfl
theorem s50 {a0 a1 a2 : D} {L : List Bx} {R : AE → List Bx → Prop} (h : A50 a0 a1 a2 L R) : ASpec pr 50 [a0, a1, a2] L R :=
  aspec_of (A := ⟨[(6, []), (12, []), (15, [79]), (22, [8]), (3000031, []), (3000040, []), (3000050, []), (3000060, []), (3000074, [])], [(3, [(0, 0), (1, 0), (2, 0), (3, 0), (4, 0), (5, 0), (6, 3), (7, 2)]), (11, [(0, 0), (1, 0), (2, 0), (3, 0), (4, 0), (5, 0), (6, 0), (7, 0), (8, 0)])]⟩) (fn := fn50) 3 mixed Tryd.func50 (by kernel_rfl) (by decide) rfl (by kernel_rfl) (by rw [A50_eq] at h; exact h)
noncomputable abbrev fn84 : Func := Tryd.f84
/- ashlar/term.shapes$1 -/
def A84 (a0 a1 : D) (L : List Bx) (R : AE → List Bx → Prop) : Prop :=
abx [.i 0, .b false, .b false, .nil, .b false] L fun t4 w1 =>
abldS 3 1 2 [.i 0, .i 0] [(0, 1, a1), (1, 1, a1)] w1 fun t8 w2 =>
abld [.i 0, .b false, .b false, .nil, .b false] [(0, 1, a0), (3, 1, t8)] fun t9 =>
ast 5 t4 t9 w2 fun w3 =>
aldN 5 t4 w3 fun r0 =>
R (.ret r0) w3
theorem A84_eq : A84 = fun a0 a1 L R => aex pr ⟨[], []⟩ (bodyOf fn84) (aenv0 [a0, a1]) L (apost pr fn84.results.toList R) := by kernel_rfl
theorem s84 {a0 a1 : D} {L : List Bx} {R : AE → List Bx → Prop} (h : A84 a0 a1 L R) : ASpec pr 84 [a0, a1] L R :=
  aspec_of (A := ⟨[], []⟩) (fn := fn84) 2 mixed Tryd.func84 (by kernel_rfl) (by decide) rfl (by kernel_rfl) (by rw [A84_eq] at h; exact h)
noncomputable abbrev fn41 : Func := Tryd.f41
/- ashlar/term.Name -/
def A41 (a0 : D) (L : List Bx) (R : AE → List Bx → Prop) : Prop :=
aar .neq a0 (.s ⟨#[]⟩) fun t4 =>
acnd t4 (alenS a0 fun t7 =>
aar .leq t7 (.i 16) fun t8 =>
acnd t8 (aidxStr a0 (.i 0) fun t12 =>
acallW pr 71 [.s ⟨#[65, 66, 67, 68, 69, 70, 71, 72, 73, 74, 75, 76, 77, 78, 79, 80, 81, 82, 83, 84, 85, 86, 87, 88, 89, 90, 97, 98, 99, 100, 101, 102, 103, 104, 105, 106, 107, 108, 109, 110, 111, 112, 113, 114, 115, 116, 117, 118, 119, 120, 121, 122]⟩, t12] L (apn R) fun t13 w1 =>
aar .geq t13 (.i 0) fun t14 =>
acnd t14 (acallW pr 72 [a0, .s ⟨#[65, 66, 67, 68, 69, 70, 71, 72, 73, 74, 75, 76, 77, 78, 79, 80, 81, 82, 83, 84, 85, 86, 87, 88, 89, 90, 97, 98, 99, 100, 101, 102, 103, 104, 105, 106, 107, 108, 109, 110, 111, 112, 113, 114, 115, 116, 117, 118, 119, 120, 121, 122, 48, 49, 50, 51, 52, 53, 54, 55, 56, 57, 95]⟩] w1 (apn R) fun t18 w2 =>
aar .eql t18 (.s ⟨#[]⟩) fun t19 =>
R (.ret t19) w2) (R (.ret (.b false)) w1)) (R (.ret (.b false)) L)) (R (.ret (.b false)) L)
theorem A41_eq : A41 = fun a0 L R => aex pr ⟨[], []⟩ (bodyOf fn41) (aenv0 [a0]) L (apost pr fn41.results.toList R) := by kernel_rfl
theorem s41 {a0 : D} {L : List Bx} {R : AE → List Bx → Prop} (h : A41 a0 L R) : ASpec pr 41 [a0] L R :=
  aspec_of (A := ⟨[], []⟩) (fn := fn41) 1 mixed Tryd.func41 (by kernel_rfl) (by decide) rfl (by kernel_rfl) (by rw [A41_eq] at h; exact h)
noncomputable abbrev fn72 : Func := Tryd.f72
/- strings.Trim -/
def A72 (a0 a1 : D) (L : List Bx) (R : AE → List Bx → Prop) : Prop :=
ajn (fun v3 w1 =>
ajn (fun v5 w2 =>
acallW pr 110 [a1] w2 (apn R) fun t31 w3 =>
aext 0 t31 fun t32 =>
aext 1 t31 fun t33 =>
abx (vals (reps 256 [.bool false])) w3 fun t5 w4 =>
ast 256 t5 t32 w4 fun w5 =>
acnd t33 (acallW pr 112 [a0, t5] w5 (apn R) fun t36 w6 =>
acallW pr 111 [t36, t5] w6 (apn R) fun t37 w7 =>
R (.ret t37) w7) (acallW pr 114 [a0, a1] w5 (apn R) fun t40 w8 =>
acallW pr 113 [t40, a1] w8 (apn R) fun t42 w9 =>
R (.ret t42) w9)) fun j5 =>
alenS a1 fun t15 =>
aar .eql t15 (.i 1) fun t16 =>
acnd t16 (aidxStr a1 (.i 0) fun t19 =>
aar .lss t19 (.val (.int .u8 128)) fun t20 =>
acnd t20 (aidxStr a1 (.i 0) fun t24 =>
acallS pr 109 [a0, t24] w1 (fun _ _ => False) fun t25 w10 =>
aidxStr a1 (.i 0) fun t27 =>
acallS pr 108 [t25, t27] w10 (fun _ _ => False) fun t28 w11 =>
R (.ret t28) w11) (j5 [] w1)) (j5 [] w1)) fun j3 =>
aar .eql a0 (.s ⟨#[]⟩) fun t8 =>
acnd t8 (R (.ret a0) L) (aar .eql a1 (.s ⟨#[]⟩) fun t11 =>
acnd t11 (R (.ret a0) L) (j3 [] L))
theorem A72_eq : A72 = fun a0 a1 L R => aex pr ⟨[(6, []), (10, [])], [(4, [(0, 0), (1, 0), (2, 0), (3, 0), (4, 0), (5, 0), (6, 0), (7, 2)])]⟩ (bodyOf fn72) (aenv0 [a0, a1]) L (apost pr fn72.results.toList R) := by kernel_rfl
theorem s72 {a0 a1 : D} {L : List Bx} {R : AE → List Bx → Prop} (h : A72 a0 a1 L R) : ASpec pr 72 [a0, a1] L R :=
  aspec_of (A := ⟨[(6, []), (10, [])], [(4, [(0, 0), (1, 0), (2, 0), (3, 0), (4, 0), (5, 0), (6, 0), (7, 2)])]⟩) (fn := fn72) 2 mixed Tryd.func72 (by kernel_rfl) (by decide) rfl (by kernel_rfl) (by rw [A72_eq] at h; exact h)
noncomputable abbrev fn71 : Func := Tryd.f71
/- strings.IndexByte -/
def A71 (a0 a1 : D) (L : List Bx) (R : AE → List Bx → Prop) : Prop :=
acallW pr 107 [a0, a1] L (apn R) fun t7 w1 =>
R (.ret t7) w1
theorem A71_eq : A71 = fun a0 a1 L R => aex pr ⟨[], []⟩ (bodyOf fn71) (aenv0 [a0, a1]) L (apost pr fn71.results.toList R) := by kernel_rfl
theorem s71 {a0 a1 : D} {L : List Bx} {R : AE → List Bx → Prop} (h : A71 a0 a1 L R) : ASpec pr 71 [a0, a1] L R :=
  aspec_of (A := ⟨[], []⟩) (fn := fn71) 2 mixed Tryd.func71 (by kernel_rfl) (by decide) rfl (by kernel_rfl) (by rw [A71_eq] at h; exact h)
noncomputable abbrev fn107 : Func := Tryd.f107
/- internal/stringslite.IndexByte -/
def A107 (a0 a1 : D) (L : List Bx) (R : AE → List Bx → Prop) : Prop :=
acallW pr 137 [a0, a1] L (apn R) fun t7 w1 =>
R (.ret t7) w1
theorem A107_eq : A107 = fun a0 a1 L R => aex pr ⟨[], []⟩ (bodyOf fn107) (aenv0 [a0, a1]) L (apost pr fn107.results.toList R) := by kernel_rfl
theorem s107 {a0 a1 : D} {L : List Bx} {R : AE → List Bx → Prop} (h : A107 a0 a1 L R) : ASpec pr 107 [a0, a1] L R :=
  aspec_of (A := ⟨[], []⟩) (fn := fn107) 2 mixed Tryd.func107 (by kernel_rfl) (by decide) rfl (by kernel_rfl) (by rw [A107_eq] at h; exact h)
noncomputable abbrev fn110 : Func := Tryd.f110
/- strings.makeASCIISet -/
def A110 (a0 : D) (L : List Bx) (R : AE → List Bx → Prop) : Prop :=
abx (vals (reps 256 [.bool false])) L fun t2 w1 =>
alp [.i 0] w1 fun v2 w2 k2 =>
alenS a0 fun t8 =>
aar .lss (aix v2 0) t8 fun t9 =>
acnd t9 (aidxStr a0 (aix v2 0) fun t14 =>
aar .geq t14 (.val (.int .u8 128)) fun t16 =>
acnd t16 (aldN 256 t2 w2 fun t17 =>
ast 256 t2 t17 w2 fun w3 =>
aldN 256 t2 w3 fun r0 =>
R (.ret (.tuple [r0, .b false])) w3) (aidxP 256 1 t2 t14 fun t19 =>
ast 1 t19 (.b true) w2 fun w4 =>
aar .add (aix v2 0) (.i 1) fun t11 =>
k2 [t11] w4)) (aldN 256 t2 w2 fun t20 =>
ast 256 t2 t20 w2 fun w5 =>
aldN 256 t2 w5 fun r0 =>
R (.ret (.tuple [r0, .b true])) w5)
theorem A110_eq : A110 = fun a0 L R => aex pr ⟨[(5, [4])], []⟩ (bodyOf fn110) (aenv0 [a0]) L (apost pr fn110.results.toList R) := by kernel_rfl
theorem s110 {a0 : D} {L : List Bx} {R : AE → List Bx → Prop} (h : A110 a0 L R) : ASpec pr 110 [a0] L R :=
  aspec_of (A := ⟨[(5, [4])], []⟩) (fn := fn110) 1 mixed Tryd.func110 (by kernel_rfl) (by decide) rfl (by kernel_rfl) (by rw [A110_eq] at h; exact h)
noncomputable abbrev fn111 : Func := Tryd.f111
/- strings.trimLeftASCII -/
def A111 (a0 a1 : D) (L : List Bx) (R : AE → List Bx → Prop) : Prop :=
alp [a0] L fun v1 w1 k1 =>
alenS (aix v1 0) fun t6 =>
aar .gtr t6 (.i 0) fun t7 =>
acnd t7 (aidxStr (aix v1 0) (.i 0) fun t10 =>
acallW pr 138 [a1, t10] w1 (apn R) fun t11 w2 =>
anotb t11 fun t12 =>
acnd t12 (R (.ret (aix v1 0)) w2) (aslcS (aix v1 0) (some (.i 1)) none fun t14 =>
k1 [t14] w2)) (R (.ret (aix v1 0)) w1)
theorem A111_eq : A111 = fun a0 a1 L R => aex pr ⟨[(3, [0])], []⟩ (bodyOf fn111) (aenv0 [a0, a1]) L (apost pr fn111.results.toList R) := by kernel_rfl
theorem s111 {a0 a1 : D} {L : List Bx} {R : AE → List Bx → Prop} (h : A111 a0 a1 L R) : ASpec pr 111 [a0, a1] L R :=
  aspec_of (A := ⟨[(3, [0])], []⟩) (fn := fn111) 2 mixed Tryd.func111 (by kernel_rfl) (by decide) rfl (by kernel_rfl) (by rw [A111_eq] at h; exact h)
noncomputable abbrev fn112 : Func := Tryd.f112
/- strings.trimRightASCII -/
def A112 (a0 a1 : D) (L : List Bx) (R : AE → List Bx → Prop) : Prop :=
alp [a0] L fun v1 w1 k1 =>
alenS (aix v1 0) fun t6 =>
aar .gtr t6 (.i 0) fun t7 =>
acnd t7 (alenS (aix v1 0) fun t11 =>
aar .sub t11 (.i 1) fun t12 =>
aidxStr (aix v1 0) t12 fun t13 =>
acallW pr 138 [a1, t13] w1 (apn R) fun t14 w2 =>
anotb t14 fun t15 =>
acnd t15 (R (.ret (aix v1 0)) w2) (alenS (aix v1 0) fun t18 =>
aar .sub t18 (.i 1) fun t19 =>
aslcS (aix v1 0) none (some t19) fun t20 =>
k1 [t20] w2)) (R (.ret (aix v1 0)) w1)
theorem A112_eq : A112 = fun a0 a1 L R => aex pr ⟨[(3, [0])], []⟩ (bodyOf fn112) (aenv0 [a0, a1]) L (apost pr fn112.results.toList R) := by kernel_rfl
theorem s112 {a0 a1 : D} {L : List Bx} {R : AE → List Bx → Prop} (h : A112 a0 a1 L R) : ASpec pr 112 [a0, a1] L R :=
  aspec_of (A := ⟨[(3, [0])], []⟩) (fn := fn112) 2 mixed Tryd.func112 (by kernel_rfl) (by decide) rfl (by kernel_rfl) (by rw [A112_eq] at h; exact h)
noncomputable abbrev fn138 : Func := Tryd.f138
/- (*strings.asciiSet).contains -/
def A138 (a0 a1 : D) (L : List Bx) (R : AE → List Bx → Prop) : Prop :=
anilc a0 fun t7 =>
aidxP 256 1 t7 a1 fun t8 =>
ald1 t8 L fun t9 =>
R (.ret t9) L
theorem A138_eq : A138 = fun a0 a1 L R => aex pr ⟨[], []⟩ (bodyOf fn138) (aenv0 [a0, a1]) L (apost pr fn138.results.toList R) := by kernel_rfl
theorem s138 {a0 a1 : D} {L : List Bx} {R : AE → List Bx → Prop} (h : A138 a0 a1 L R) : ASpec pr 138 [a0, a1] L R :=
  aspec_of (A := ⟨[], []⟩) (fn := fn138) 2 mixed Tryd.func138 (by kernel_rfl) (by decide) rfl (by kernel_rfl) (by rw [A138_eq] at h; exact h)
noncomputable abbrev fn70 : Func := Tryd.f70
/- ashlar/term.same -/
def A70 (a0 a1 : D) (L : List Bx) (R : AE → List Bx → Prop) : Prop :=
abxv a0 L fun t2 w1 =>
abxv a1 w1 fun t3 w2 =>
afld 0 t2 fun t5 =>
ald1 t5 w2 fun t6 =>
afld 0 t3 fun t7 =>
ald1 t7 w2 fun t8 =>
aar .eql t6 t8 fun t9 =>
acnd t9 (afld 1 t2 fun t11 =>
ald1 t11 w2 fun t12 =>
afld 1 t3 fun t13 =>
ald1 t13 w2 fun t14 =>
aar .eql t12 t14 fun t15 =>
acnd t15 (afld 2 t2 fun t18 =>
ald1 t18 w2 fun t19 =>
afld 2 t3 fun t20 =>
ald1 t20 w2 fun t21 =>
aar .eql t19 t21 fun t22 =>
acnd t22 (afld 3 t2 fun t25 =>
ald1 t25 w2 fun t26 =>
afld 3 t3 fun t27 =>
ald1 t27 w2 fun t28 =>
acallW pr 106 [t26, t28, .fn 70 [] []] w2 (apn R) fun t29 w3 =>
R (.ret t29) w3) (R (.ret (.b false)) w2)) (R (.ret (.b false)) w2)) (R (.ret (.b false)) w2)
theorem A70_eq : A70 = fun a0 a1 L R => aex pr ⟨[], []⟩ (bodyOf fn70) (aenv0 [a0, a1]) L (apost pr fn70.results.toList R) := by kernel_rfl
theorem s70 {a0 a1 : D} {L : List Bx} {R : AE → List Bx → Prop} (h : A70 a0 a1 L R) : ASpec pr 70 [a0, a1] L R :=
  aspec_of (A := ⟨[], []⟩) (fn := fn70) 2 mixed Tryd.func70 (by kernel_rfl) (by decide) rfl (by kernel_rfl) (by rw [A70_eq] at h; exact h)
noncomputable abbrev fn40 : Func := Tryd.f40
/- ashlar/term.Same -/
def A40 (a0 a1 : D) (L : List Bx) (R : AE → List Bx → Prop) : Prop :=
abxv a0 L fun t2 w1 =>
abxv a1 w1 fun t3 w2 =>
aldN 4 t2 w2 fun t5 =>
acallW pr 24 [t5] w2 (apn R) fun t6 w3 =>
aar .leq t6 (.i 100) fun t7 =>
acnd t7 (aldN 4 t3 w3 fun t9 =>
acallW pr 24 [t9] w3 (apn R) fun t10 w4 =>
aar .leq t10 (.i 100) fun t11 =>
acnd t11 (aldN 4 t2 w4 fun t14 =>
aldN 4 t3 w4 fun t15 =>
acallW pr 70 [t14, t15] w4 (apn R) fun t16 w5 =>
R (.ret t16) w5) (R (.ret (.b false)) w4)) (R (.ret (.b false)) w3)
theorem A40_eq : A40 = fun a0 a1 L R => aex pr ⟨[], []⟩ (bodyOf fn40) (aenv0 [a0, a1]) L (apost pr fn40.results.toList R) := by kernel_rfl
theorem s40 {a0 a1 : D} {L : List Bx} {R : AE → List Bx → Prop} (h : A40 a0 a1 L R) : ASpec pr 40 [a0, a1] L R :=
  aspec_of (A := ⟨[], []⟩) (fn := fn40) 2 mixed Tryd.func40 (by kernel_rfl) (by decide) rfl (by kernel_rfl) (by rw [A40_eq] at h; exact h)
noncomputable abbrev fn45 : Func := Tryd.f45
/- ashlar/ashlarref03.same -/
def A45 (a0 a1 : D) (L : List Bx) (R : AE → List Bx → Prop) : Prop :=
abxv a0 L fun t2 w1 =>
abxv a1 w1 fun t3 w2 =>
ajn (fun v3 w3 =>
alp [.i 0] w3 fun v4 w4 k4 =>
afld 3 t2 fun t35 =>
ald1 t35 w4 fun t36 =>
alenL t36 fun t37 =>
aar .lss (aix v4 0) t37 fun t38 =>
acnd t38 (afld 3 t2 fun t41 =>
ald1 t41 w4 fun t42 =>
aidxS 4 t42 (aix v4 0) fun t44 =>
aldN 4 t44 w4 fun t45 =>
afld 3 t3 fun t46 =>
ald1 t46 w4 fun t47 =>
aidxS 4 t47 (aix v4 0) fun t49 =>
aldN 4 t49 w4 fun t50 =>
acallS pr 45 [t45, t50] w4 (fun _ _ => False) fun t51 w5 =>
anotb t51 fun t52 =>
acnd t52 (R (.ret (.b false)) w5) (aar .add (aix v4 0) (.i 1) fun t40 =>
k4 [t40] w5)) (R (.ret (.b true)) w4)) fun j3 =>
afld 0 t2 fun t6 =>
ald1 t6 w2 fun t7 =>
afld 0 t3 fun t8 =>
ald1 t8 w2 fun t9 =>
aar .neq t7 t9 fun t10 =>
acnd t10 (R (.ret (.b false)) w2) (afld 1 t2 fun t12 =>
ald1 t12 w2 fun t13 =>
afld 1 t3 fun t14 =>
ald1 t14 w2 fun t15 =>
aar .neq t13 t15 fun t16 =>
acnd t16 (R (.ret (.b false)) w2) (afld 2 t2 fun t19 =>
ald1 t19 w2 fun t20 =>
afld 2 t3 fun t21 =>
ald1 t21 w2 fun t22 =>
aar .neq t20 t22 fun t23 =>
acnd t23 (R (.ret (.b false)) w2) (afld 3 t2 fun t26 =>
ald1 t26 w2 fun t27 =>
alenL t27 fun t28 =>
afld 3 t3 fun t29 =>
ald1 t29 w2 fun t30 =>
alenL t30 fun t31 =>
aar .neq t28 t31 fun t32 =>
acnd t32 (R (.ret (.b false)) w2) (j3 [] w2))))
theorem A45_eq : A45 = fun a0 a1 L R => aex pr ⟨[(6, []), (9, [5])], [(6, [(0, 0), (1, 0), (2, 0), (3, 0), (4, 0), (5, 0), (6, 0), (7, 0), (8, 0), (9, 0), (10, 0), (11, 0)])]⟩ (bodyOf fn45) (aenv0 [a0, a1]) L (apost pr fn45.results.toList R) := by kernel_rfl
theorem s45 {a0 a1 : D} {L : List Bx} {R : AE → List Bx → Prop} (h : A45 a0 a1 L R) : ASpec pr 45 [a0, a1] L R :=
  aspec_of (A := ⟨[(6, []), (9, [5])], [(6, [(0, 0), (1, 0), (2, 0), (3, 0), (4, 0), (5, 0), (6, 0), (7, 0), (8, 0), (9, 0), (10, 0), (11, 0)])]⟩) (fn := fn45) 2 mixed Tryd.func45 (by kernel_rfl) (by decide) rfl (by kernel_rfl) (by rw [A45_eq] at h; exact h)
noncomputable abbrev fn20 : Func := Tryd.f20
/- ashlar/ashlarref03.Same -/
def A20 (a0 a1 : D) (L : List Bx) (R : AE → List Bx → Prop) : Prop :=
abxv a0 L fun t2 w1 =>
abxv a1 w1 fun t3 w2 =>
aldN 4 t2 w2 fun t5 =>
acallW pr 36 [t5] w2 (apn R) fun t6 w3 =>
aar .leq t6 (.i 100) fun t7 =>
acnd t7 (aldN 4 t3 w3 fun t9 =>
acallW pr 36 [t9] w3 (apn R) fun t10 w4 =>
aar .leq t10 (.i 100) fun t11 =>
acnd t11 (aldN 4 t2 w4 fun t14 =>
aldN 4 t3 w4 fun t15 =>
acallW pr 45 [t14, t15] w4 (apn R) fun t16 w5 =>
R (.ret t16) w5) (R (.ret (.b false)) w4)) (R (.ret (.b false)) w3)
theorem A20_eq : A20 = fun a0 a1 L R => aex pr ⟨[], []⟩ (bodyOf fn20) (aenv0 [a0, a1]) L (apost pr fn20.results.toList R) := by kernel_rfl
theorem s20 {a0 a1 : D} {L : List Bx} {R : AE → List Bx → Prop} (h : A20 a0 a1 L R) : ASpec pr 20 [a0, a1] L R :=
  aspec_of (A := ⟨[], []⟩) (fn := fn20) 2 mixed Tryd.func20 (by kernel_rfl) (by decide) rfl (by kernel_rfl) (by rw [A20_eq] at h; exact h)
noncomputable abbrev fn60 : Func := Tryd.f60
/- ashlar/ashlarref03.deep -/
def A60 (a0 a1 : D) (L : List Bx) (R : AE → List Bx → Prop) : Prop :=
abxv a0 L fun t2 w1 =>
aar .eql a1 (.i 1) fun t8 =>
acnd t8 (R (.ret (.i 1)) w1) (alp [.i 0, .i 0] w1 fun v5 w2 k5 =>
afld 3 t2 fun t10 =>
ald1 t10 w2 fun t11 =>
alenL t11 fun t12 =>
aar .lss (aix v5 1) t12 fun t13 =>
acnd t13 (afld 3 t2 fun t17 =>
ald1 t17 w2 fun t18 =>
aidxS 4 t18 (aix v5 1) fun t20 =>
aldN 4 t20 w2 fun t21 =>
aar .sub a1 (.i 1) fun t23 =>
acallW pr 60 [t21, t23] w2 (apn R) fun t24 w3 =>
amax2 (aix v5 0) t24 fun t25 =>
aar .add (aix v5 1) (.i 1) fun t15 =>
k5 [t25, t15] w3) (aar .add (aix v5 0) (.i 1) fun t27 =>
R (.ret t27) w2))
theorem A60_eq : A60 = fun a0 a1 L R => aex pr ⟨[(11, [5, 6])], []⟩ (bodyOf fn60) (aenv0 [a0, a1]) L (apost pr fn60.results.toList R) := by kernel_rfl
theorem s60 {a0 a1 : D} {L : List Bx} {R : AE → List Bx → Prop} (h : A60 a0 a1 L R) : ASpec pr 60 [a0, a1] L R :=
  aspec_of (A := ⟨[(11, [5, 6])], []⟩) (fn := fn60) 2 mixed Tryd.func60 (by kernel_rfl) (by decide) rfl (by kernel_rfl) (by rw [A60_eq] at h; exact h)
noncomputable abbrev fn36 : Func := Tryd.f36
/- ashlar/ashlarref03.Deep -/
def A36 (a0 : D) (L : List Bx) (R : AE → List Bx → Prop) : Prop :=
abxv a0 L fun t1 w1 =>
aldN 4 t1 w1 fun t3 =>
acallW pr 60 [t3, .i 101] w1 (apn R) fun t4 w2 =>
R (.ret t4) w2
theorem A36_eq : A36 = fun a0 L R => aex pr ⟨[], []⟩ (bodyOf fn36) (aenv0 [a0]) L (apost pr fn36.results.toList R) := by kernel_rfl
theorem s36 {a0 : D} {L : List Bx} {R : AE → List Bx → Prop} (h : A36 a0 L R) : ASpec pr 36 [a0] L R :=
  aspec_of (A := ⟨[], []⟩) (fn := fn36) 1 mixed Tryd.func36 (by kernel_rfl) (by decide) rfl (by kernel_rfl) (by rw [A36_eq] at h; exact h)
noncomputable abbrev fn59 : Func := Tryd.f59
/- ashlar/ashlarref03.left -/
def A59 (a0 a1 : D) (L : List Bx) (R : AE → List Bx → Prop) : Prop :=
abxv a0 L fun t2 w1 =>
aar .eql a1 (.i 0) fun t7 =>
acnd t7 (R (.ret (.i 0)) w1) (aar .sub a1 (.i 1) fun t9 =>
alp [t9, .i 0] w1 fun v5 w2 k5 =>
ajn (fun v7 w3 =>
afld 3 t2 fun t21 =>
ald1 t21 w3 fun t22 =>
aidxS 4 t22 (aix v5 1) fun t24 =>
aldN 4 t24 w3 fun t25 =>
acallW pr 59 [t25, aix v5 0] w3 (apn R) fun t27 w4 =>
aar .add (aix v5 1) (.i 1) fun t20 =>
k5 [t27, t20] w4) fun j7 =>
afld 3 t2 fun t11 =>
ald1 t11 w2 fun t12 =>
alenL t12 fun t13 =>
aar .lss (aix v5 1) t13 fun t14 =>
acnd t14 (aar .gtr (aix v5 0) (.i 0) fun t17 =>
acnd t17 (j7 [] w2) (R (.ret (aix v5 0)) w2)) (R (.ret (aix v5 0)) w2))
theorem A59_eq : A59 = fun a0 a1 L R => aex pr ⟨[(11, [1, 5]), (14, [])], []⟩ (bodyOf fn59) (aenv0 [a0, a1]) L (apost pr fn59.results.toList R) := by kernel_rfl
theorem s59 {a0 a1 : D} {L : List Bx} {R : AE → List Bx → Prop} (h : A59 a0 a1 L R) : ASpec pr 59 [a0, a1] L R :=
  aspec_of (A := ⟨[(11, [1, 5]), (14, [])], []⟩) (fn := fn59) 2 mixed Tryd.func59 (by kernel_rfl) (by decide) rfl (by kernel_rfl) (by rw [A59_eq] at h; exact h)
noncomputable abbrev fn35 : Func := Tryd.f35
/- ashlar/ashlarref03.Size -/
def A35 (a0 : D) (L : List Bx) (R : AE → List Bx → Prop) : Prop :=
abxv a0 L fun t1 w1 =>
aldN 4 t1 w1 fun t3 =>
acallW pr 59 [t3, .i 2001] w1 (apn R) fun t4 w2 =>
aar .sub (.i 2001) t4 fun t5 =>
R (.ret t5) w2
theorem A35_eq : A35 = fun a0 L R => aex pr ⟨[], []⟩ (bodyOf fn35) (aenv0 [a0]) L (apost pr fn35.results.toList R) := by kernel_rfl
theorem s35 {a0 : D} {L : List Bx} {R : AE → List Bx → Prop} (h : A35 a0 L R) : ASpec pr 35 [a0] L R :=
  aspec_of (A := ⟨[], []⟩) (fn := fn35) 1 mixed Tryd.func35 (by kernel_rfl) (by decide) rfl (by kernel_rfl) (by rw [A35_eq] at h; exact h)
noncomputable abbrev fn58 : Func := Tryd.f58
/- ashlar/ashlarref03.sorted -/
def A58 (a0 : D) (L : List Bx) (R : AE → List Bx → Prop) : Prop :=
abxv a0 L fun t1 w1 =>
afld 0 t1 fun t10 =>
ald1 t10 w1 fun t11 =>
acallW pr 100 [t11] w1 (apn R) fun t12 w2 =>
aext 0 t12 fun t13 =>
aext 1 t12 fun t14 =>
afld 1 t1 fun t15 =>
ald1 t15 w2 fun t16 =>
acallW pr 42 [t16] w2 (apn R) fun t17 w3 =>
ajn (fun v5 w4 =>
ajn (fun v6 w5 =>
ajn (fun v8 w6 =>
alp [.i 0] w6 fun v9 w7 k9 =>
afld 3 t1 fun t73 =>
ald1 t73 w7 fun t74 =>
alenL t74 fun t75 =>
aar .lss (aix v9 0) t75 fun t76 =>
acnd t76 (afld 3 t1 fun t79 =>
ald1 t79 w7 fun t80 =>
aidxS 4 t80 (aix v9 0) fun t82 =>
aldN 4 t82 w7 fun t83 =>
acallW pr 58 [t83] w7 (apn R) fun t84 w8 =>
ajn (fun y89 w9 =>
acnd (aix y89 0) (R (.ret (.i 0)) w9) (anotb (aix v6 0) fun t92 =>
ajn (fun y100 w10 =>
acnd (aix y100 0) (R (.ret (.i 0)) w10) (aar .add (aix v9 0) (.i 1) fun t78 =>
k9 [t78] w10)) fun j100 =>
acnd t92 (aidxS 1 t14 (aix v9 0) fun t97 =>
ald1 t97 w9 fun t98 =>
aar .neq t84 t98 fun t99 =>
j100 [t99] w9) (j100 [.b false] w9))) fun j89 =>
acnd (aix v6 0) (aar .neq t84 (.i 4) fun t88 =>
j89 [t88] w8) (j89 [.b false] w8)) (R (.ret t13) w7)) fun j8 =>
anotb (aix v6 0) fun t63 =>
acnd t63 (afld 3 t1 fun t65 =>
ald1 t65 w5 fun t66 =>
alenL t66 fun t67 =>
alenL t14 fun t69 =>
aar .neq t67 t69 fun t70 =>
acnd t70 (R (.ret (.i 0)) w5) (j8 [] w5)) (j8 [] w5)) fun j6 =>
alenL t14 fun t54 =>
aar .eql t54 (.i 1) fun t55 =>
acnd t55 (aidxS 1 t14 (.i 0) fun t58 =>
ald1 t58 w4 fun t59 =>
aar .eql t59 (.i (-1)) fun t60 =>
j6 [t60] w4) (j6 [.b false] w4)) fun j5 =>
aar .eql t13 (.i 0) fun t19 =>
acnd t19 (R (.ret (.i 0)) w3) (afld 0 t1 fun t21 =>
ald1 t21 w3 fun t22 =>
acallW pr 101 [t22] w3 (apn R) fun t23 w11 =>
aarB .neq t23 t17 fun t25 =>
acnd t25 (R (.ret (.i 0)) w11) (afld 0 t1 fun t28 =>
ald1 t28 w11 fun t29 =>
acallW pr 101 [t29] w11 (apn R) fun t30 w12 =>
anotb t30 fun t31 =>
ajn (fun y36 w13 =>
acnd (aix y36 0) (R (.ret (.i 0)) w13) (afld 2 t1 fun t39 =>
ald1 t39 w13 fun t40 =>
aar .neq t40 (.i 0) fun t41 =>
acnd t41 (afld 0 t1 fun t43 =>
ald1 t43 w13 fun t44 =>
aar .neq t44 (.i 1) fun t45 =>
ajn (fun y51 w14 =>
acnd (aix y51 0) (R (.ret (.i 0)) w14) (j5 [] w14)) fun j51 =>
acnd t45 (afld 0 t1 fun t48 =>
ald1 t48 w13 fun t49 =>
aar .neq t49 (.i 6) fun t50 =>
j51 [t50] w13) (j51 [.b false] w13)) (ajn (fun y51 w15 =>
acnd (aix y51 0) (R (.ret (.i 0)) w15) (j5 [] w15)) fun j51 =>
j51 [.b false] w13))) fun j36 =>
acnd t31 (afld 1 t1 fun t33 =>
ald1 t33 w12 fun t34 =>
aar .neq t34 (.s ⟨#[]⟩) fun t35 =>
j36 [t35] w12) (j36 [.b false] w12)))
theorem A58_eq : A58 = fun a0 L R => aex pr ⟨[(10, []), (12, [6]), (16, []), (19, [7]), (3000036, []), (3000051, []), (3000089, []), (3000100, [])], []⟩ (bodyOf fn58) (aenv0 [a0]) L (apost pr fn58.results.toList R) := by kernel_rfl
theorem s58 {a0 : D} {L : List Bx} {R : AE → List Bx → Prop} (h : A58 a0 L R) : ASpec pr 58 [a0] L R :=
  aspec_of (A := ⟨[(10, []), (12, [6]), (16, []), (19, [7]), (3000036, []), (3000051, []), (3000089, []), (3000100, [])], []⟩) (fn := fn58) 1 mixed Tryd.func58 (by kernel_rfl) (by decide) rfl (by kernel_rfl) (by rw [A58_eq] at h; exact h)
noncomputable abbrev fn34 : Func := Tryd.f34
/- ashlar/ashlarref03.Sort -/
def A34 (a0 : D) (L : List Bx) (R : AE → List Bx → Prop) : Prop :=
abxv a0 L fun t1 w1 =>
aldN 4 t1 w1 fun t5 =>
acallW pr 35 [t5] w1 (apn R) fun t6 w2 =>
aar .gtr t6 (.i 2000) fun t7 =>
acnd t7 (R (.ret (.tuple [.i 0, .i 7])) w2) (aldN 4 t1 w2 fun t9 =>
acallW pr 36 [t9] w2 (apn R) fun t10 w3 =>
aar .gtr t10 (.i 100) fun t11 =>
acnd t11 (R (.ret (.tuple [.i 0, .i 7])) w3) (aldN 4 t1 w3 fun t13 =>
acallW pr 58 [t13] w3 (apn R) fun t14 w4 =>
aar .eql t14 (.i 0) fun t16 =>
acnd t16 (R (.ret (.tuple [.i 0, .i 3])) w4) (R (.ret (.tuple [t14, .i 0])) w4)))
theorem A34_eq : A34 = fun a0 L R => aex pr ⟨[], []⟩ (bodyOf fn34) (aenv0 [a0]) L (apost pr fn34.results.toList R) := by kernel_rfl
theorem s34 {a0 : D} {L : List Bx} {R : AE → List Bx → Prop} (h : A34 a0 L R) : ASpec pr 34 [a0] L R :=
  aspec_of (A := ⟨[], []⟩) (fn := fn34) 1 mixed Tryd.func34 (by kernel_rfl) (by decide) rfl (by kernel_rfl) (by rw [A34_eq] at h; exact h)
noncomputable abbrev fn42 : Func := Tryd.f42
/- ashlar/ashlarref03.Name -/
def A42 (a0 : D) (L : List Bx) (R : AE → List Bx → Prop) : Prop :=
ajn (fun v3 w1 =>
alp [.i 0] w1 fun v4 w2 k4 =>
alenS a0 fun t19 =>
aar .lss (aix v4 0) t19 fun t20 =>
acnd t20 (aidxStr a0 (aix v4 0) fun t25 =>
acallW pr 73 [t25] w2 (apn R) fun t26 w3 =>
anotb t26 fun t27 =>
acnd t27 (aidxStr a0 (aix v4 0) fun t31 =>
aar .lss t31 (.val (.int .u8 48)) fun t32 =>
ajn (fun y38 w4 =>
acnd (aix y38 0) (aidxStr a0 (aix v4 0) fun t43 =>
aar .neq t43 (.val (.int .u8 95)) fun t44 =>
acnd t44 (R (.ret (.b false)) w4) (aar .add (aix v4 0) (.i 1) fun t22 =>
k4 [t22] w4)) (aar .add (aix v4 0) (.i 1) fun t22 =>
k4 [t22] w4)) fun j38 =>
acnd t32 (j38 [.b true] w3) (aidxStr a0 (aix v4 0) fun t36 =>
aar .gtr t36 (.val (.int .u8 57)) fun t37 =>
j38 [t37] w3)) (aar .add (aix v4 0) (.i 1) fun t22 =>
k4 [t22] w3)) (R (.ret (.b true)) w2)) fun j3 =>
aar .eql a0 (.s ⟨#[]⟩) fun t5 =>
acnd t5 (R (.ret (.b false)) L) (alenS a0 fun t8 =>
aar .gtr t8 (.i 16) fun t9 =>
acnd t9 (R (.ret (.b false)) L) (aidxStr a0 (.i 0) fun t13 =>
acallW pr 73 [t13] L (apn R) fun t14 w5 =>
anotb t14 fun t15 =>
acnd t15 (R (.ret (.b false)) w5) (j3 [] w5)))
theorem A42_eq : A42 = fun a0 L R => aex pr ⟨[(6, []), (9, [3]), (3000038, [])], []⟩ (bodyOf fn42) (aenv0 [a0]) L (apost pr fn42.results.toList R) := by kernel_rfl
theorem s42 {a0 : D} {L : List Bx} {R : AE → List Bx → Prop} (h : A42 a0 L R) : ASpec pr 42 [a0] L R :=
  aspec_of (A := ⟨[(6, []), (9, [3]), (3000038, [])], []⟩) (fn := fn42) 1 mixed Tryd.func42 (by kernel_rfl) (by decide) rfl (by kernel_rfl) (by rw [A42_eq] at h; exact h)
noncomputable abbrev fn73 : Func := Tryd.f73
/- ashlar/ashlarref03.letter -/
def A73 (a0 : D) (L : List Bx) (R : AE → List Bx → Prop) : Prop :=
aar .geq a0 (.val (.int .u8 97)) fun t4 =>
ajn (fun y8 w1 =>
acnd (aix y8 0) (R (.ret (.b true)) w1) (aar .geq a0 (.val (.int .u8 65)) fun t11 =>
ajn (fun y15 w2 =>
R (.ret (aix y15 0)) w2) fun j15 =>
acnd t11 (aar .leq a0 (.val (.int .u8 90)) fun t14 =>
j15 [t14] w1) (j15 [.b false] w1))) fun j8 =>
acnd t4 (aar .leq a0 (.val (.int .u8 122)) fun t7 =>
j8 [t7] L) (j8 [.b false] L)
theorem A73_eq : A73 = fun a0 L R => aex pr ⟨[(3000008, []), (3000015, [])], []⟩ (bodyOf fn73) (aenv0 [a0]) L (apost pr fn73.results.toList R) := by kernel_rfl
theorem s73 {a0 : D} {L : List Bx} {R : AE → List Bx → Prop} (h : A73 a0 L R) : ASpec pr 73 [a0] L R :=
  aspec_of (A := ⟨[(3000008, []), (3000015, [])], []⟩) (fn := fn73) 1 mixed Tryd.func73 (by kernel_rfl) (by decide) rfl (by kernel_rfl) (by rw [A73_eq] at h; exact h)
noncomputable abbrev fn100 : Func := Tryd.f100
/- ashlar/ashlarref03.shape -/
def A100 (a0 : D) (L : List Bx) (R : AE → List Bx → Prop) : Prop :=
ajn (fun v4 w1 =>
acnd (aix v4 0) (R (.ret (.tuple [.i 1, .nil])) w1) (aar .eql a0 (.i 3) fun t9 =>
acnd t9 (abldS 3 1 1 [.i 0] [(0, 1, .i 2)] w1 fun t10 w2 =>
R (.ret (.tuple [.i 1, t10])) w2) (ajn (fun v9 w3 =>
acnd (aix v9 0) (abldS 3 1 2 [.i 0, .i 0] [(0, 1, .i 1), (1, 1, .i 1)] w3 fun t14 w4 =>
R (.ret (.tuple [.i 1, t14])) w4) (aar .eql a0 (.i 6) fun t16 =>
acnd t16 (abldS 3 1 1 [.i 0] [(0, 1, .i 1)] w3 fun t17 w5 =>
R (.ret (.tuple [.i 1, t17])) w5) (ajn (fun v15 w6 =>
acnd (aix v15 0) (R (.ret (.tuple [.i 2, .nil])) w6) (aar .eql a0 (.i 10) fun t23 =>
acnd t23 (abldS 3 1 1 [.i 0] [(0, 1, .i 3)] w6 fun t24 w7 =>
R (.ret (.tuple [.i 2, t24])) w7) (ajn (fun v21 w8 =>
acnd (aix v21 0) (abldS 3 1 2 [.i 0, .i 0] [(0, 1, .i 2), (1, 1, .i 2)] w8 fun t29 w9 =>
R (.ret (.tuple [.i 2, t29])) w9) (aar .eql a0 (.i 14) fun t31 =>
acnd t31 (R (.ret (.tuple [.i 3, .nil])) w8) (ajn (fun v27 w10 =>
acnd (aix v27 0) (R (.ret (.tuple [.i 4, .nil])) w10) (aar .eql a0 (.i 18) fun t37 =>
acnd t37 (abldS 3 1 1 [.i 0] [(0, 1, .i 4)] w10 fun t38 w11 =>
R (.ret (.tuple [.i 4, t38])) w11) (ajn (fun v32 w12 =>
acnd (aix v32 0) (abldS 3 1 1 [.i 0] [(0, 1, .i (-1))] w12 fun t42 w13 =>
R (.ret (.tuple [.i 4, t42])) w13) (aar .eql a0 (.i 21) fun t44 =>
acnd t44 (abldS 3 1 2 [.i 0, .i 0] [(0, 1, .i 4), (1, 1, .i 4)] w12 fun t45 w14 =>
R (.ret (.tuple [.i 4, t45])) w14) (ajn (fun v38 w15 =>
acnd (aix v38 0) (abldS 3 1 2 [.i 0, .i 0] [(0, 1, .i 1), (1, 1, .i 1)] w15 fun t50 w16 =>
R (.ret (.tuple [.i 4, t50])) w16) (aar .eql a0 (.i 25) fun t52 =>
acnd t52 (abldS 3 1 2 [.i 0, .i 0] [(0, 1, .i 3), (1, 1, .i 2)] w15 fun t53 w17 =>
R (.ret (.tuple [.i 4, t53])) w17) (aar .eql a0 (.i 26) fun t55 =>
acnd t55 (acnd t55 (abldS 3 1 2 [.i 0, .i 0] [(0, 1, .i 2), (1, 1, .i 2)] w15 fun t57 w18 =>
R (.ret (.tuple [.i 4, t57])) w18) (aar .eql a0 (.i 28) fun t59 =>
acnd t59 (abldS 3 1 2 [.i 0, .i 0] [(0, 1, .i 3), (1, 1, .i 3)] w15 fun t60 w19 =>
R (.ret (.tuple [.i 4, t60])) w19) (R (.ret (.tuple [.i 0, .nil])) w15))) (aar .eql a0 (.i 27) fun t56 =>
acnd t56 (abldS 3 1 2 [.i 0, .i 0] [(0, 1, .i 2), (1, 1, .i 2)] w15 fun t57 w20 =>
R (.ret (.tuple [.i 4, t57])) w20) (aar .eql a0 (.i 28) fun t59 =>
acnd t59 (abldS 3 1 2 [.i 0, .i 0] [(0, 1, .i 3), (1, 1, .i 3)] w15 fun t60 w21 =>
R (.ret (.tuple [.i 4, t60])) w21) (R (.ret (.tuple [.i 0, .nil])) w15)))))) fun j38 =>
aar .eql a0 (.i 22) fun t47 =>
acnd t47 (j38 [t47] w12) (aar .eql a0 (.i 23) fun t48 =>
acnd t48 (j38 [t48] w12) (aar .eql a0 (.i 24) fun t49 =>
j38 [t49] w12))))) fun j32 =>
aar .eql a0 (.i 19) fun t40 =>
acnd t40 (j32 [t40] w10) (aar .eql a0 (.i 20) fun t41 =>
j32 [t41] w10)))) fun j27 =>
aar .eql a0 (.i 15) fun t33 =>
acnd t33 (j27 [t33] w8) (aar .eql a0 (.i 16) fun t34 =>
acnd t34 (j27 [t34] w8) (aar .eql a0 (.i 17) fun t35 =>
j27 [t35] w8))))) fun j21 =>
aar .eql a0 (.i 11) fun t26 =>
acnd t26 (j21 [t26] w6) (aar .eql a0 (.i 12) fun t27 =>
acnd t27 (j21 [t27] w6) (aar .eql a0 (.i 13) fun t28 =>
j21 [t28] w6))))) fun j15 =>
aar .eql a0 (.i 7) fun t19 =>
acnd t19 (j15 [t19] w3) (aar .eql a0 (.i 8) fun t20 =>
acnd t20 (j15 [t20] w3) (aar .eql a0 (.i 9) fun t21 =>
j15 [t21] w3))))) fun j9 =>
aar .eql a0 (.i 4) fun t12 =>
acnd t12 (j9 [t12] w1) (aar .eql a0 (.i 5) fun t13 =>
j9 [t13] w1)))) fun j4 =>
aar .eql a0 (.i 1) fun t6 =>
acnd t6 (j4 [t6] L) (aar .eql a0 (.i 2) fun t7 =>
j4 [t7] L)
theorem A100_eq : A100 = fun a0 L R => aex pr ⟨[(8, [5]), (18, [11]), (30, [18]), (42, [25]), (54, [32]), (64, [39]), (76, [46])], []⟩ (bodyOf fn100) (aenv0 [a0]) L (apost pr fn100.results.toList R) := by kernel_rfl
theorem s100 {a0 : D} {L : List Bx} {R : AE → List Bx → Prop} (h : A100 a0 L R) : ASpec pr 100 [a0] L R :=
  aspec_of (A := ⟨[(8, [5]), (18, [11]), (30, [18]), (42, [25]), (54, [32]), (64, [39]), (76, [46])], []⟩) (fn := fn100) 1 mixed Tryd.func100 (by kernel_rfl) (by decide) rfl (by kernel_rfl) (by rw [A100_eq] at h; exact h)
noncomputable abbrev fn101 : Func := Tryd.f101
/- ashlar/ashlarref03.Var -/
def A101 (a0 : D) (L : List Bx) (R : AE → List Bx → Prop) : Prop :=
aar .eql a0 (.i 2) fun t4 =>
acnd t4 (R (.ret (.b true)) L) (aar .eql a0 (.i 7) fun t7 =>
acnd t7 (R (.ret (.b true)) L) (aar .eql a0 (.i 14) fun t11 =>
acnd t11 (R (.ret (.b true)) L) (aar .eql a0 (.i 15) fun t15 =>
R (.ret t15) L)))
theorem A101_eq : A101 = fun a0 L R => aex pr ⟨[], []⟩ (bodyOf fn101) (aenv0 [a0]) L (apost pr fn101.results.toList R) := by kernel_rfl
theorem s101 {a0 : D} {L : List Bx} {R : AE → List Bx → Prop} (h : A101 a0 L R) : ASpec pr 101 [a0] L R :=
  aspec_of (A := ⟨[], []⟩) (fn := fn101) 1 mixed Tryd.func101 (by kernel_rfl) (by decide) rfl (by kernel_rfl) (by rw [A101_eq] at h; exact h)
noncomputable abbrev fn106 : Func := Tryd.f106
/- slices.EqualFunc[[]ashlar/api.Term,[]ashlar/api.Term,ashlar/api.Term,ashlar/api.Term] -/
def A106 (a0 a1 a2 : D) (L : List Bx) (R : AE → List Bx → Prop) : Prop :=
alenL a0 fun t11 =>
alenL a1 fun t13 =>
aar .neq t11 t13 fun t14 =>
acnd t14 (R (.ret (.b false)) L) (alenL a0 fun t16 =>
alp [.i 0] L fun v4 w1 k4 =>
aar .lss (aix v4 0) t16 fun t18 =>
acnd t18 (aidxS 4 a0 (aix v4 0) fun t20 =>
aldN 4 t20 w1 fun t21 =>
abx [.i 0, .s ⟨#[]⟩, .i 0, .nil] w1 fun t8 w2 =>
ast 4 t8 t21 w2 fun w3 =>
aidxS 4 a1 (aix v4 0) fun t24 =>
aldN 4 t24 w3 fun t25 =>
abx [.i 0, .s ⟨#[]⟩, .i 0, .nil] w3 fun t9 w4 =>
ast 4 t9 t25 w4 fun w5 =>
aldN 4 t8 w5 fun t27 =>
aldN 4 t9 w5 fun t28 =>
acallF pr false a2 [t27, t28] w5 (apn R) fun t29 w6 =>
anotb t29 fun t30 =>
acnd t30 (R (.ret (.b false)) w6) (aar .add (aix v4 0) (.i 1) fun t31 =>
k4 [t31] w6)) (R (.ret (.b true)) w1))
theorem A106_eq : A106 = fun a0 a1 a2 L R => aex pr ⟨[(9, [17])], []⟩ (bodyOf fn106) (aenv0 [a0, a1, a2]) L (apost pr fn106.results.toList R) := by kernel_rfl
theorem s106 {a0 a1 a2 : D} {L : List Bx} {R : AE → List Bx → Prop} (h : A106 a0 a1 a2 L R) : ASpec pr 106 [a0, a1, a2] L R :=
  aspec_of (A := ⟨[(9, [17])], []⟩) (fn := fn106) 3 mixed Tryd.func106 (by kernel_rfl) (by decide) rfl (by kernel_rfl) (by rw [A106_eq] at h; exact h)
noncomputable abbrev fn74 : Func := Tryd.f74
/- ashlar/norm.plain -/
def A74 (a0 : D) (L : List Bx) (R : AE → List Bx → Prop) : Prop :=
abxv a0 L fun t1 w1 =>
abx [.i 0, .s ⟨#[]⟩, .i 0, .nil] w1 fun t2 w2 =>
afld 0 t1 fun t3 =>
ald1 t3 w2 fun t4 =>
aar .eql t4 (.i 21) fun t6 =>
acnd t6 (afld 3 t1 fun t7 =>
ald1 t7 w2 fun t8 =>
aidxS 4 t8 (.i 0) fun t9 =>
aldN 4 t9 w2 fun t10 =>
abldF 4 1 [.i 0, .s ⟨#[]⟩, .i 0, .nil] [(0, 4, t10)] fun t11 =>
acallS pr 76 [.i 18, t11] w2 (fun _ _ => False) fun t12 w3 =>
afld 3 t1 fun t13 =>
ald1 t13 w3 fun t14 =>
aidxS 4 t14 (.i 1) fun t15 =>
aldN 4 t15 w3 fun t16 =>
abldF 4 2 [.i 0, .s ⟨#[]⟩, .i 0, .nil, .i 0, .s ⟨#[]⟩, .i 0, .nil] [(0, 4, t12), (4, 4, t16)] fun t17 =>
acallS pr 76 [.i 20, t17] w3 (fun _ _ => False) fun t18 w4 =>
ast 4 t2 t18 w4 fun w5 =>
aldN 4 t2 w5 fun r0 =>
R (.ret r0) w5) (aar .eql t4 (.i 23) fun t20 =>
acnd t20 (afld 3 t1 fun t21 =>
ald1 t21 w2 fun t22 =>
aidxS 4 t22 (.i 1) fun t23 =>
aldN 4 t23 w2 fun t24 =>
afld 3 t1 fun t25 =>
ald1 t25 w2 fun t26 =>
aidxS 4 t26 (.i 0) fun t27 =>
aldN 4 t27 w2 fun t28 =>
acallS pr 115 [t24, t28] w2 (fun _ _ => False) fun t29 w6 =>
abldF 4 1 [.i 0, .s ⟨#[]⟩, .i 0, .nil] [(0, 4, t29)] fun t30 =>
acallS pr 76 [.i 18, t30] w6 (fun _ _ => False) fun t31 w7 =>
ast 4 t2 t31 w7 fun w8 =>
aldN 4 t2 w8 fun r0 =>
R (.ret r0) w8) (aar .eql t4 (.i 24) fun t33 =>
acnd t33 (afld 3 t1 fun t34 =>
ald1 t34 w2 fun t35 =>
aidxS 4 t35 (.i 0) fun t36 =>
aldN 4 t36 w2 fun t37 =>
afld 3 t1 fun t38 =>
ald1 t38 w2 fun t39 =>
aidxS 4 t39 (.i 1) fun t40 =>
aldN 4 t40 w2 fun t41 =>
acallS pr 115 [t37, t41] w2 (fun _ _ => False) fun t42 w9 =>
afld 3 t1 fun t43 =>
ald1 t43 w9 fun t44 =>
aidxS 4 t44 (.i 1) fun t45 =>
aldN 4 t45 w9 fun t46 =>
afld 3 t1 fun t47 =>
ald1 t47 w9 fun t48 =>
aidxS 4 t48 (.i 0) fun t49 =>
aldN 4 t49 w9 fun t50 =>
acallS pr 115 [t46, t50] w9 (fun _ _ => False) fun t51 w10 =>
abldF 4 2 [.i 0, .s ⟨#[]⟩, .i 0, .nil, .i 0, .s ⟨#[]⟩, .i 0, .nil] [(0, 4, t42), (4, 4, t51)] fun t52 =>
acallS pr 76 [.i 19, t52] w10 (fun _ _ => False) fun t53 w11 =>
ast 4 t2 t53 w11 fun w12 =>
aldN 4 t2 w12 fun r0 =>
R (.ret r0) w12) (aar .eql t4 (.i 26) fun t55 =>
acnd t55 (afld 3 t1 fun t56 =>
ald1 t56 w2 fun t57 =>
aidxS 4 t57 (.i 0) fun t58 =>
aldN 4 t58 w2 fun t59 =>
afld 3 t1 fun t60 =>
ald1 t60 w2 fun t61 =>
aidxS 4 t61 (.i 1) fun t62 =>
aldN 4 t62 w2 fun t63 =>
abldF 4 2 [.i 0, .s ⟨#[]⟩, .i 0, .nil, .i 0, .s ⟨#[]⟩, .i 0, .nil] [(0, 4, t59), (4, 4, t63)] fun t64 =>
acallS pr 76 [.i 13, t64] w2 (fun _ _ => False) fun t65 w13 =>
acallS pr 116 [t65] w13 (fun _ _ => False) fun t66 w14 =>
ast 4 t2 t66 w14 fun w15 =>
aldN 4 t2 w15 fun r0 =>
R (.ret r0) w15) (aar .eql t4 (.i 25) fun t68 =>
acnd t68 (afld 3 t1 fun t69 =>
ald1 t69 w2 fun t70 =>
aidxS 4 t70 (.i 0) fun t71 =>
aldN 4 t71 w2 fun t72 =>
abldF 4 1 [.i 0, .s ⟨#[]⟩, .i 0, .nil] [(0, 4, t72)] fun t73 =>
acallS pr 76 [.i 10, t73] w2 (fun _ _ => False) fun t74 w16 =>
afld 3 t1 fun t75 =>
ald1 t75 w16 fun t76 =>
aidxS 4 t76 (.i 1) fun t77 =>
aldN 4 t77 w16 fun t78 =>
abldF 4 2 [.i 0, .s ⟨#[]⟩, .i 0, .nil, .i 0, .s ⟨#[]⟩, .i 0, .nil] [(0, 4, t74), (4, 4, t78)] fun t79 =>
acallS pr 76 [.i 13, t79] w16 (fun _ _ => False) fun t80 w17 =>
acallS pr 116 [t80] w17 (fun _ _ => False) fun t81 w18 =>
ast 4 t2 t81 w18 fun w19 =>
aldN 4 t2 w19 fun r0 =>
R (.ret r0) w19) (aar .eql t4 (.i 28) fun t83 =>
acnd t83 (afld 3 t1 fun t84 =>
ald1 t84 w2 fun t85 =>
aidxS 4 t85 (.i 0) fun t86 =>
aldN 4 t86 w2 fun t87 =>
abldF 4 1 [.i 0, .s ⟨#[]⟩, .i 0, .nil] [(0, 4, t87)] fun t88 =>
acallS pr 76 [.i 10, t88] w2 (fun _ _ => False) fun t89 w20 =>
afld 3 t1 fun t90 =>
ald1 t90 w20 fun t91 =>
aidxS 4 t91 (.i 1) fun t92 =>
aldN 4 t92 w20 fun t93 =>
abldF 4 1 [.i 0, .s ⟨#[]⟩, .i 0, .nil] [(0, 4, t93)] fun t94 =>
acallS pr 76 [.i 10, t94] w20 (fun _ _ => False) fun t95 w21 =>
abldF 4 2 [.i 0, .s ⟨#[]⟩, .i 0, .nil, .i 0, .s ⟨#[]⟩, .i 0, .nil] [(0, 4, t89), (4, 4, t95)] fun t96 =>
acallS pr 76 [.i 13, t96] w21 (fun _ _ => False) fun t97 w22 =>
acallS pr 116 [t97] w22 (fun _ _ => False) fun t98 w23 =>
ast 4 t2 t98 w23 fun w24 =>
aldN 4 t2 w24 fun r0 =>
R (.ret r0) w24) (aar .eql t4 (.i 27) fun t100 =>
acnd t100 (afld 3 t1 fun t101 =>
ald1 t101 w2 fun t102 =>
aidxS 4 t102 (.i 0) fun t103 =>
aldN 4 t103 w2 fun t104 =>
afld 3 t1 fun t105 =>
ald1 t105 w2 fun t106 =>
aidxS 4 t106 (.i 1) fun t107 =>
aldN 4 t107 w2 fun t108 =>
abldF 4 2 [.i 0, .s ⟨#[]⟩, .i 0, .nil, .i 0, .s ⟨#[]⟩, .i 0, .nil] [(0, 4, t104), (4, 4, t108)] fun t109 =>
acallS pr 76 [.i 13, t109] w2 (fun _ _ => False) fun t110 w25 =>
acallS pr 116 [t110] w25 (fun _ _ => False) fun t111 w26 =>
afld 3 t1 fun t112 =>
ald1 t112 w26 fun t113 =>
aidxS 4 t113 (.i 1) fun t114 =>
aldN 4 t114 w26 fun t115 =>
afld 3 t1 fun t116 =>
ald1 t116 w26 fun t117 =>
aidxS 4 t117 (.i 0) fun t118 =>
aldN 4 t118 w26 fun t119 =>
abldF 4 2 [.i 0, .s ⟨#[]⟩, .i 0, .nil, .i 0, .s ⟨#[]⟩, .i 0, .nil] [(0, 4, t115), (4, 4, t119)] fun t120 =>
acallS pr 76 [.i 13, t120] w26 (fun _ _ => False) fun t121 w27 =>
acallS pr 116 [t121] w27 (fun _ _ => False) fun t122 w28 =>
abldF 4 2 [.i 0, .s ⟨#[]⟩, .i 0, .nil, .i 0, .s ⟨#[]⟩, .i 0, .nil] [(0, 4, t111), (4, 4, t122)] fun t123 =>
acallS pr 76 [.i 19, t123] w28 (fun _ _ => False) fun t124 w29 =>
ast 4 t2 t124 w29 fun w30 =>
aldN 4 t2 w30 fun r0 =>
R (.ret r0) w30) (aldN 4 t1 w2 fun t125 =>
ast 4 t2 t125 w2 fun w31 =>
aldN 4 t2 w31 fun r0 =>
R (.ret r0) w31)))))))
theorem A74_eq : A74 = fun a0 L R => aex pr ⟨[], [(3, [(0, 0), (1, 0), (2, 0), (3, 0), (4, 0), (5, 0), (6, 0), (7, 0), (8, 0), (9, 0), (10, 0), (11, 0), (12, 2)]), (5, [(0, 0), (1, 0), (2, 0), (3, 0), (4, 0), (5, 0), (6, 0), (7, 0), (8, 0), (9, 0), (10, 0), (11, 2)]), (7, [(0, 0), (1, 0), (2, 0), (3, 0), (4, 0), (5, 0), (6, 0), (7, 0), (8, 0), (9, 0), (10, 0), (11, 0), (12, 0), (13, 0), (14, 0), (15, 0), (16, 0), (17, 0), (18, 0), (19, 0), (20, 2)]), (9, [(0, 0), (1, 0), (2, 0), (3, 0), (4, 0), (5, 0), (6, 0), (7, 0), (8, 0), (9, 0), (10, 0), (11, 2)]), (11, [(0, 0), (1, 0), (2, 0), (3, 0), (4, 0), (5, 0), (6, 0), (7, 0), (8, 0), (9, 0), (10, 0), (11, 0), (12, 0), (13, 2)]), (13, [(0, 0), (1, 0), (2, 0), (3, 0), (4, 0), (5, 0), (6, 0), (7, 0), (8, 0), (9, 0), (10, 0), (11, 0), (12, 0), (13, 0), (14, 0), (15, 2)]), (15, [(0, 0), (1, 0), (2, 0), (3, 0), (4, 0), (5, 0), (6, 0), (7, 0), (8, 0), (9, 0), (10, 0), (11, 0), (12, 0), (13, 0), (14, 0), (15, 0), (16, 0), (17, 0), (18, 0), (19, 0), (20, 0), (21, 0), (22, 0), (23, 0), (24, 2)])]⟩ (bodyOf fn74) (aenv0 [a0]) L (apost pr fn74.results.toList R) := by kernel_rfl
theorem s74 {a0 : D} {L : List Bx} {R : AE → List Bx → Prop} (h : A74 a0 L R) : ASpec pr 74 [a0] L R :=
  aspec_of (A := ⟨[], [(3, [(0, 0), (1, 0), (2, 0), (3, 0), (4, 0), (5, 0), (6, 0), (7, 0), (8, 0), (9, 0), (10, 0), (11, 0), (12, 2)]), (5, [(0, 0), (1, 0), (2, 0), (3, 0), (4, 0), (5, 0), (6, 0), (7, 0), (8, 0), (9, 0), (10, 0), (11, 2)]), (7, [(0, 0), (1, 0), (2, 0), (3, 0), (4, 0), (5, 0), (6, 0), (7, 0), (8, 0), (9, 0), (10, 0), (11, 0), (12, 0), (13, 0), (14, 0), (15, 0), (16, 0), (17, 0), (18, 0), (19, 0), (20, 2)]), (9, [(0, 0), (1, 0), (2, 0), (3, 0), (4, 0), (5, 0), (6, 0), (7, 0), (8, 0), (9, 0), (10, 0), (11, 2)]), (11, [(0, 0), (1, 0), (2, 0), (3, 0), (4, 0), (5, 0), (6, 0), (7, 0), (8, 0), (9, 0), (10, 0), (11, 0), (12, 0), (13, 2)]), (13, [(0, 0), (1, 0), (2, 0), (3, 0), (4, 0), (5, 0), (6, 0), (7, 0), (8, 0), (9, 0), (10, 0), (11, 0), (12, 0), (13, 0), (14, 0), (15, 2)]), (15, [(0, 0), (1, 0), (2, 0), (3, 0), (4, 0), (5, 0), (6, 0), (7, 0), (8, 0), (9, 0), (10, 0), (11, 0), (12, 0), (13, 0), (14, 0), (15, 0), (16, 0), (17, 0), (18, 0), (19, 0), (20, 0), (21, 0), (22, 0), (23, 0), (24, 2)])]⟩) (fn := fn74) 1 mixed Tryd.func74 (by kernel_rfl) (by decide) rfl (by kernel_rfl) (by rw [A74_eq] at h; exact h)
noncomputable abbrev fn75 : Func := Tryd.f75
/- ashlar/norm.turned -/
def A75 (a0 : D) (L : List Bx) (R : AE → List Bx → Prop) : Prop :=
aar .eql a0 (.i 19) fun t5 =>
acnd t5 (R (.ret (.i 20)) L) (aar .eql a0 (.i 20) fun t7 =>
acnd t7 (R (.ret (.i 19)) L) (aar .eql a0 (.i 16) fun t9 =>
acnd t9 (R (.ret (.i 17)) L) (aar .eql a0 (.i 17) fun t11 =>
acnd t11 (R (.ret (.i 16)) L) (R (.ret a0) L))))
theorem A75_eq : A75 = fun a0 L R => aex pr ⟨[], []⟩ (bodyOf fn75) (aenv0 [a0]) L (apost pr fn75.results.toList R) := by kernel_rfl
theorem s75 {a0 : D} {L : List Bx} {R : AE → List Bx → Prop} (h : A75 a0 L R) : ASpec pr 75 [a0] L R :=
  aspec_of (A := ⟨[], []⟩) (fn := fn75) 1 mixed Tryd.func75 (by kernel_rfl) (by decide) rfl (by kernel_rfl) (by rw [A75_eq] at h; exact h)
noncomputable abbrev fn76 : Func := Tryd.f76
/- ashlar/norm.op -/
def A76 (a0 a1 : D) (L : List Bx) (R : AE → List Bx → Prop) : Prop :=
abx [.i 0, .s ⟨#[]⟩, .i 0, .nil] L fun t4 w1 =>
abld [.i 0, .s ⟨#[]⟩, .i 0, .nil] [(0, 1, a0), (3, 1, a1)] fun t7 =>
ast 4 t4 t7 w1 fun w2 =>
aldN 4 t4 w2 fun r0 =>
R (.ret r0) w2
theorem A76_eq : A76 = fun a0 a1 L R => aex pr ⟨[], []⟩ (bodyOf fn76) (aenv0 [a0, a1]) L (apost pr fn76.results.toList R) := by kernel_rfl
theorem s76 {a0 a1 : D} {L : List Bx} {R : AE → List Bx → Prop} (h : A76 a0 a1 L R) : ASpec pr 76 [a0, a1] L R :=
  aspec_of (A := ⟨[], []⟩) (fn := fn76) 2 mixed Tryd.func76 (by kernel_rfl) (by decide) rfl (by kernel_rfl) (by rw [A76_eq] at h; exact h)
noncomputable abbrev fn115 : Func := Tryd.f115
/- ashlar/norm.le -/
def A115 (a0 a1 : D) (L : List Bx) (R : AE → List Bx → Prop) : Prop :=
abxv a0 L fun t2 w1 =>
abxv a1 w1 fun t3 w2 =>
abx [.i 0, .s ⟨#[]⟩, .i 0, .nil] w2 fun t4 w3 =>
aldN 4 t2 w3 fun t5 =>
aldN 4 t3 w3 fun t6 =>
abldS 24 4 2 [.i 0, .s ⟨#[]⟩, .i 0, .nil, .i 0, .s ⟨#[]⟩, .i 0, .nil] [(0, 4, t5), (4, 4, t6)] w3 fun t7 w4 =>
acallW pr 76 [.i 22, t7] w4 (apn R) fun t8 w5 =>
ast 4 t4 t8 w5 fun w6 =>
aldN 4 t4 w6 fun r0 =>
R (.ret r0) w6
theorem A115_eq : A115 = fun a0 a1 L R => aex pr ⟨[], []⟩ (bodyOf fn115) (aenv0 [a0, a1]) L (apost pr fn115.results.toList R) := by kernel_rfl
theorem s115 {a0 a1 : D} {L : List Bx} {R : AE → List Bx → Prop} (h : A115 a0 a1 L R) : ASpec pr 115 [a0, a1] L R :=
  aspec_of (A := ⟨[], []⟩) (fn := fn115) 2 mixed Tryd.func115 (by kernel_rfl) (by decide) rfl (by kernel_rfl) (by rw [A115_eq] at h; exact h)
noncomputable abbrev fn116 : Func := Tryd.f116
/- ashlar/norm.empty -/
def A116 (a0 : D) (L : List Bx) (R : AE → List Bx → Prop) : Prop :=
abxv a0 L fun t1 w1 =>
abx [.i 0, .s ⟨#[]⟩, .i 0, .nil] w1 fun t2 w2 =>
aldN 4 t1 w2 fun t3 =>
abldS 24 4 1 [.i 0, .s ⟨#[]⟩, .i 0, .nil] [(0, 4, t3)] w2 fun t4 w3 =>
acallW pr 76 [.i 3, t4] w3 (apn R) fun t5 w4 =>
acallW pr 76 [.i 1, .nil] w4 (apn R) fun t6 w5 =>
acallW pr 115 [t5, t6] w5 (apn R) fun t7 w6 =>
ast 4 t2 t7 w6 fun w7 =>
aldN 4 t2 w7 fun r0 =>
R (.ret r0) w7
theorem A116_eq : A116 = fun a0 L R => aex pr ⟨[], []⟩ (bodyOf fn116) (aenv0 [a0]) L (apost pr fn116.results.toList R) := by kernel_rfl
theorem s116 {a0 : D} {L : List Bx} {R : AE → List Bx → Prop} (h : A116 a0 L R) : ASpec pr 116 [a0] L R :=
  aspec_of (A := ⟨[], []⟩) (fn := fn116) 1 mixed Tryd.func116 (by kernel_rfl) (by decide) rfl (by kernel_rfl) (by rw [A116_eq] at h; exact h)
noncomputable abbrev fn43 : Func := Tryd.f43
/- ashlar/norm.norm -/
def A43 (a0 a1 : D) (L : List Bx) (R : AE → List Bx → Prop) : Prop :=
abxv a0 L fun t2 w1 =>
abx [.i 0, .s ⟨#[]⟩, .i 0, .nil] w1 fun t4 w2 =>
aldN 4 t2 w2 fun t8 =>
acallW pr 74 [t8] w2 (apn R) fun t9 w3 =>
ast 4 t2 t9 w3 fun w4 =>
ajn (fun v18 w5 =>
acnd a1 (aldN 4 t2 w5 fun t52 =>
abldS 24 4 1 [.i 0, .s ⟨#[]⟩, .i 0, .nil] [(0, 4, t52)] w5 fun t53 w6 =>
acallW pr 76 [.i 18, t53] w6 (apn R) fun t54 w7 =>
ast 4 t4 t54 w7 fun w8 =>
aldN 4 t4 w8 fun r0 =>
R (.ret r0) w8) (aldN 4 t2 w5 fun t55 =>
ast 4 t4 t55 w5 fun w9 =>
aldN 4 t4 w9 fun r0 =>
R (.ret r0) w9)) fun j18 =>
afld 0 t2 fun t10 =>
ald1 t10 w4 fun t11 =>
aar .eql t11 (.i 18) fun t13 =>
acnd t13 (afld 3 t2 fun t14 =>
ald1 t14 w4 fun t15 =>
aidxS 4 t15 (.i 0) fun t16 =>
aldN 4 t16 w4 fun t17 =>
anotb a1 fun t19 =>
acallW pr 43 [t17, t19] w4 (apn R) fun t20 w10 =>
ast 4 t4 t20 w10 fun w11 =>
aldN 4 t4 w11 fun r0 =>
R (.ret r0) w11) (ajn (fun v9 w12 =>
acnd (aix v9 0) (afld 0 t2 fun t26 =>
ald1 t26 w12 fun t27 =>
abld [.i 0, .s ⟨#[]⟩, .i 0, .nil] [(0, 1, t27)] fun t28 =>
abx [.i 0, .s ⟨#[]⟩, .i 0, .nil] w12 fun t5 w13 =>
ast 4 t5 t28 w13 fun w14 =>
ajn (fun v12 w15 =>
afld 3 t2 fun t34 =>
ald1 t34 w15 fun t35 =>
alenL t35 fun t36 =>
alp [.i 0] w15 fun v13 w16 k13 =>
aar .lss (aix v13 0) t36 fun t38 =>
acnd t38 (aidxS 4 t35 (aix v13 0) fun t39 =>
aldN 4 t39 w16 fun t40 =>
abx [.i 0, .s ⟨#[]⟩, .i 0, .nil] w16 fun t7 w17 =>
ast 4 t7 t40 w17 fun w18 =>
afld 3 t5 fun t41 =>
ald1 t41 w18 fun t42 =>
aldN 4 t7 w18 fun t43 =>
acallS pr 43 [t43, a1] w18 (fun _ _ => False) fun t45 w19 =>
abldF 4 1 [.i 0, .s ⟨#[]⟩, .i 0, .nil] [(0, 4, t45)] fun t46 =>
aapp 24 4 56 t42 t46 w19 fun t47 w20 =>
afld 3 t5 fun t48 =>
ast 1 t48 t47 w20 fun w21 =>
aar .add (aix v13 0) (.i 1) fun t49 =>
k13 [t49] w21) (aldN 4 t5 w16 fun t50 =>
ast 4 t4 t50 w16 fun w22 =>
aldN 4 t4 w22 fun r0 =>
R (.ret r0) w22)) fun j12 =>
acnd a1 (afld 0 t2 fun t30 =>
ald1 t30 w14 fun t31 =>
acallW pr 75 [t31] w14 (apn R) fun t32 w23 =>
afld 0 t5 fun t33 =>
ast 1 t33 t32 w23 fun w24 =>
j12 [] w24) (j12 [] w14)) (j18 [] w12)) fun j9 =>
aar .eql t11 (.i 19) fun t22 =>
acnd t22 (j9 [t22] w4) (aar .eql t11 (.i 20) fun t23 =>
acnd t23 (j9 [t23] w4) (aar .eql t11 (.i 16) fun t24 =>
acnd t24 (j9 [t24] w4) (aar .eql t11 (.i 17) fun t25 =>
j9 [t25] w4))))
theorem A43_eq : A43 = fun a0 a1 L R => aex pr ⟨[(18, [21]), (24, []), (27, [37]), (36, [])], [(15, [(0, 0), (1, 0), (2, 0), (3, 0), (4, 0), (5, 0), (6, 2), (7, 0), (8, 2)])]⟩ (bodyOf fn43) (aenv0 [a0, a1]) L (apost pr fn43.results.toList R) := by kernel_rfl
theorem s43 {a0 a1 : D} {L : List Bx} {R : AE → List Bx → Prop} (h : A43 a0 a1 L R) : ASpec pr 43 [a0, a1] L R :=
  aspec_of (A := ⟨[(18, [21]), (24, []), (27, [37]), (36, [])], [(15, [(0, 0), (1, 0), (2, 0), (3, 0), (4, 0), (5, 0), (6, 2), (7, 0), (8, 2)])]⟩) (fn := fn43) 2 mixed Tryd.func43 (by kernel_rfl) (by decide) rfl (by kernel_rfl) (by rw [A43_eq] at h; exact h)
noncomputable abbrev fn18 : Func := Tryd.f18
/- ashlar/norm.Norm -/
def A18 (a0 : D) (L : List Bx) (R : AE → List Bx → Prop) : Prop :=
abxv a0 L fun t1 w1 =>
abx [.i 0, .s ⟨#[]⟩, .i 0, .nil] w1 fun t2 w2 =>
aldN 4 t1 w2 fun t10 =>
acallW pr 23 [t10] w2 (apn R) fun t11 w3 =>
aext 0 t11 fun t12 =>
aext 1 t11 fun t13 =>
aar .neq t13 (.i 0) fun t16 =>
acnd t16 (abld [.i 0, .s ⟨#[]⟩, .i 0, .nil] [] fun t17 =>
ast 4 t2 t17 w3 fun w4 =>
aldN 4 t2 w4 fun r0 =>
R (.ret (.tuple [r0, t13])) w4) (aar .neq t12 (.i 4) fun t21 =>
acnd t21 (abld [.i 0, .s ⟨#[]⟩, .i 0, .nil] [] fun t22 =>
ast 4 t2 t22 w3 fun w5 =>
aldN 4 t2 w5 fun r0 =>
R (.ret (.tuple [r0, .i 3])) w5) (aldN 4 t1 w3 fun t23 =>
acallW pr 43 [t23, .b false] w3 (apn R) fun t24 w6 =>
abx [.i 0, .s ⟨#[]⟩, .i 0, .nil] w6 fun t6 w7 =>
ast 4 t6 t24 w7 fun w8 =>
aldN 4 t6 w8 fun t26 =>
acallW pr 23 [t26] w8 (apn R) fun t27 w9 =>
aext 0 t27 fun t28 =>
aext 1 t27 fun t29 =>
aar .neq t29 (.i 0) fun t31 =>
acnd t31 (abld [.i 0, .s ⟨#[]⟩, .i 0, .nil] [] fun t32 =>
ast 4 t2 t32 w9 fun w10 =>
aldN 4 t2 w10 fun r0 =>
R (.ret (.tuple [r0, .i 7])) w10) (aldN 4 t6 w9 fun t33 =>
ast 4 t2 t33 w9 fun w11 =>
aldN 4 t2 w11 fun r0 =>
R (.ret (.tuple [r0, .i 0])) w11)))
theorem A18_eq : A18 = fun a0 L R => aex pr ⟨[], []⟩ (bodyOf fn18) (aenv0 [a0]) L (apost pr fn18.results.toList R) := by kernel_rfl
theorem s18 {a0 : D} {L : List Bx} {R : AE → List Bx → Prop} (h : A18 a0 L R) : ASpec pr 18 [a0] L R :=
  aspec_of (A := ⟨[], []⟩) (fn := fn18) 1 mixed Tryd.func18 (by kernel_rfl) (by decide) rfl (by kernel_rfl) (by rw [A18_eq] at h; exact h)
noncomputable abbrev fn46 : Func := Tryd.f46
/- ashlar/norm.few -/
def A46 (a0 : D) (L : List Bx) (R : AE → List Bx → Prop) : Prop :=
abxv a0 L fun t1 w1 =>
afld 0 t1 fun t3 =>
ald1 t3 w1 fun t4 =>
ajn (fun v4 w2 =>
acnd (aix v4 0) (afld 3 t1 fun t8 =>
ald1 t8 w2 fun t9 =>
acallW pr 82 [t9, .fn 83 [] []] w2 (apn R) fun t10 w3 =>
anotb t10 fun t11 =>
R (.ret t11) w3) (aar .eql t4 (.i 18) fun t13 =>
acnd t13 (afld 3 t1 fun t14 =>
ald1 t14 w2 fun t15 =>
aidxS 4 t15 (.i 0) fun t16 =>
afld 0 t16 fun t17 =>
ald1 t17 w2 fun t18 =>
aar .eql t18 (.i 15) fun t19 =>
acnd t19 (R (.ret (.b true)) w2) (afld 3 t1 fun t21 =>
ald1 t21 w2 fun t22 =>
aidxS 4 t22 (.i 0) fun t23 =>
afld 0 t23 fun t24 =>
ald1 t24 w2 fun t25 =>
aar .eql t25 (.i 22) fun t26 =>
R (.ret t26) w2)) (aar .eql t4 (.i 16) fun t29 =>
acnd t29 (acnd t29 (R (.ret (.b true)) w2) (R (.ret (.b false)) w2)) (aar .eql t4 (.i 17) fun t30 =>
acnd t30 (acnd t30 (R (.ret (.b true)) w2) (R (.ret (.b false)) w2)) (aar .eql t4 (.i 15) fun t31 =>
acnd t31 (acnd t31 (R (.ret (.b true)) w2) (R (.ret (.b false)) w2)) (aar .eql t4 (.i 22) fun t32 =>
acnd t32 (R (.ret (.b true)) w2) (R (.ret (.b false)) w2))))))) fun j4 =>
aar .eql t4 (.i 19) fun t6 =>
acnd t6 (j4 [t6] w1) (aar .eql t4 (.i 20) fun t7 =>
j4 [t7] w1)
theorem A46_eq : A46 = fun a0 L R => aex pr ⟨[(8, [5])], []⟩ (bodyOf fn46) (aenv0 [a0]) L (apost pr fn46.results.toList R) := by kernel_rfl
theorem s46 {a0 : D} {L : List Bx} {R : AE → List Bx → Prop} (h : A46 a0 L R) : ASpec pr 46 [a0] L R :=
  aspec_of (A := ⟨[(8, [5])], []⟩) (fn := fn46) 1 mixed Tryd.func46 (by kernel_rfl) (by decide) rfl (by kernel_rfl) (by rw [A46_eq] at h; exact h)
noncomputable abbrev fn83 : Func := Tryd.f83
/- ashlar/norm.few$1 -/
def A83 (a0 : D) (L : List Bx) (R : AE → List Bx → Prop) : Prop :=
abxv a0 L fun t1 w1 =>
aldN 4 t1 w1 fun t3 =>
acallW pr 46 [t3] w1 (apn R) fun t4 w2 =>
anotb t4 fun t5 =>
R (.ret t5) w2
theorem A83_eq : A83 = fun a0 L R => aex pr ⟨[], []⟩ (bodyOf fn83) (aenv0 [a0]) L (apost pr fn83.results.toList R) := by kernel_rfl
theorem s83 {a0 : D} {L : List Bx} {R : AE → List Bx → Prop} (h : A83 a0 L R) : ASpec pr 83 [a0] L R :=
  aspec_of (A := ⟨[], []⟩) (fn := fn83) 1 mixed Tryd.func83 (by kernel_rfl) (by decide) rfl (by kernel_rfl) (by rw [A83_eq] at h; exact h)
noncomputable abbrev fn82 : Func := Tryd.f82
/- slices.ContainsFunc[[]ashlar/api.Term,ashlar/api.Term] -/
def A82 (a0 a1 : D) (L : List Bx) (R : AE → List Bx → Prop) : Prop :=
acallW pr 117 [a0, a1] L (apn R) fun t7 w1 =>
aar .geq t7 (.i 0) fun t8 =>
R (.ret t8) w1
theorem A82_eq : A82 = fun a0 a1 L R => aex pr ⟨[], []⟩ (bodyOf fn82) (aenv0 [a0, a1]) L (apost pr fn82.results.toList R) := by kernel_rfl
theorem s82 {a0 a1 : D} {L : List Bx} {R : AE → List Bx → Prop} (h : A82 a0 a1 L R) : ASpec pr 82 [a0, a1] L R :=
  aspec_of (A := ⟨[], []⟩) (fn := fn82) 2 mixed Tryd.func82 (by kernel_rfl) (by decide) rfl (by kernel_rfl) (by rw [A82_eq] at h; exact h)
noncomputable abbrev fn117 : Func := Tryd.f117
/- slices.IndexFunc[[]ashlar/api.Term,ashlar/api.Term] -/
def A117 (a0 a1 : D) (L : List Bx) (R : AE → List Bx → Prop) : Prop :=
alenL a0 fun t7 =>
alp [.i 0] L fun v2 w1 k2 =>
aar .lss (aix v2 0) t7 fun t9 =>
acnd t9 (aidxS 4 a0 (aix v2 0) fun t14 =>
aldN 4 t14 w1 fun t15 =>
acallF pr false a1 [t15] w1 (apn R) fun t16 w2 =>
acnd t16 (R (.ret (aix v2 0)) w2) (aar .add (aix v2 0) (.i 1) fun t18 =>
k2 [t18] w2)) (R (.ret (.i (-1))) w1)
theorem A117_eq : A117 = fun a0 a1 L R => aex pr ⟨[(5, [8])], []⟩ (bodyOf fn117) (aenv0 [a0, a1]) L (apost pr fn117.results.toList R) := by kernel_rfl
theorem s117 {a0 a1 : D} {L : List Bx} {R : AE → List Bx → Prop} (h : A117 a0 a1 L R) : ASpec pr 117 [a0, a1] L R :=
  aspec_of (A := ⟨[(5, [8])], []⟩) (fn := fn117) 2 mixed Tryd.func117 (by kernel_rfl) (by decide) rfl (by kernel_rfl) (by rw [A117_eq] at h; exact h)
noncomputable abbrev fn21 : Func := Tryd.f21
/- ashlar/norm.Is -/
def A21 (a0 : D) (L : List Bx) (R : AE → List Bx → Prop) : Prop :=
abxv a0 L fun t1 w1 =>
aldN 4 t1 w1 fun t6 =>
acallW pr 23 [t6] w1 (apn R) fun t7 w2 =>
aext 0 t7 fun t8 =>
aext 1 t7 fun t9 =>
aar .eql t9 (.i 0) fun t11 =>
acnd t11 (aar .eql t8 (.i 4) fun t14 =>
acnd t14 (aldN 4 t1 w2 fun t17 =>
acallW pr 46 [t17] w2 (apn R) fun t18 w3 =>
R (.ret t18) w3) (R (.ret (.b false)) w2)) (R (.ret (.b false)) w2)
theorem A21_eq : A21 = fun a0 L R => aex pr ⟨[], []⟩ (bodyOf fn21) (aenv0 [a0]) L (apost pr fn21.results.toList R) := by kernel_rfl
theorem s21 {a0 : D} {L : List Bx} {R : AE → List Bx → Prop} (h : A21 a0 L R) : ASpec pr 21 [a0] L R :=
  aspec_of (A := ⟨[], []⟩) (fn := fn21) 1 mixed Tryd.func21 (by kernel_rfl) (by decide) rfl (by kernel_rfl) (by rw [A21_eq] at h; exact h)
noncomputable abbrev fn44 : Func := Tryd.f44
/- ashlar/ashlarref06.up -/
def A44 (a0 : D) (L : List Bx) (R : AE → List Bx → Prop) : Prop :=
abxv a0 L fun t1 w1 =>
abx [.i 0, .s ⟨#[]⟩, .i 0, .nil] w1 fun t2 w2 =>
afld 0 t1 fun t5 =>
ald1 t5 w2 fun t6 =>
aar .eql t6 (.i 18) fun t8 =>
acnd t8 (afld 3 t1 fun t9 =>
ald1 t9 w2 fun t10 =>
aidxS 4 t10 (.i 0) fun t11 =>
aldN 4 t11 w2 fun t12 =>
acallW pr 77 [t12] w2 (apn R) fun t13 w3 =>
ast 4 t2 t13 w3 fun w4 =>
aldN 4 t2 w4 fun r0 =>
R (.ret r0) w4) (ajn (fun v6 w5 =>
acnd (aix v6 0) (afld 0 t1 fun t17 =>
ald1 t17 w5 fun t18 =>
abld [.i 0, .s ⟨#[]⟩, .i 0, .nil] [(0, 1, t18)] fun t19 =>
abx [.i 0, .s ⟨#[]⟩, .i 0, .nil] w5 fun t3 w6 =>
ast 4 t3 t19 w6 fun w7 =>
alp [.i 0] w7 fun v8 w8 k8 =>
afld 3 t1 fun t21 =>
ald1 t21 w8 fun t22 =>
alenL t22 fun t23 =>
aar .lss (aix v8 0) t23 fun t24 =>
acnd t24 (afld 3 t3 fun t27 =>
ald1 t27 w8 fun t28 =>
afld 3 t1 fun t29 =>
ald1 t29 w8 fun t30 =>
aidxS 4 t30 (aix v8 0) fun t32 =>
aldN 4 t32 w8 fun t33 =>
acallS pr 44 [t33] w8 (fun _ _ => False) fun t34 w9 =>
abldF 4 1 [.i 0, .s ⟨#[]⟩, .i 0, .nil] [(0, 4, t34)] fun t35 =>
aapp 24 4 56 t28 t35 w9 fun t36 w10 =>
afld 3 t3 fun t37 =>
ast 1 t37 t36 w10 fun w11 =>
aar .add (aix v8 0) (.i 1) fun t26 =>
k8 [t26] w11) (aldN 4 t3 w8 fun t38 =>
ast 4 t2 t38 w8 fun w12 =>
aldN 4 t2 w12 fun r0 =>
R (.ret r0) w12)) (aar .eql t6 (.i 21) fun t40 =>
acnd t40 (afld 3 t1 fun t41 =>
ald1 t41 w5 fun t42 =>
aidxS 4 t42 (.i 0) fun t43 =>
aldN 4 t43 w5 fun t44 =>
acallS pr 77 [t44] w5 (fun _ _ => False) fun t45 w13 =>
afld 3 t1 fun t46 =>
ald1 t46 w13 fun t47 =>
aidxS 4 t47 (.i 1) fun t48 =>
aldN 4 t48 w13 fun t49 =>
acallS pr 44 [t49] w13 (fun _ _ => False) fun t50 w14 =>
acallS pr 78 [.i 20, t45, t50] w14 (fun _ _ => False) fun t51 w15 =>
ast 4 t2 t51 w15 fun w16 =>
aldN 4 t2 w16 fun r0 =>
R (.ret r0) w16) (aar .eql t6 (.i 23) fun t53 =>
acnd t53 (afld 3 t1 fun t54 =>
ald1 t54 w5 fun t55 =>
aidxS 4 t55 (.i 1) fun t56 =>
aldN 4 t56 w5 fun t57 =>
afld 3 t1 fun t58 =>
ald1 t58 w5 fun t59 =>
aidxS 4 t59 (.i 0) fun t60 =>
aldN 4 t60 w5 fun t61 =>
acallS pr 78 [.i 22, t57, t61] w5 (fun _ _ => False) fun t62 w17 =>
acallS pr 79 [t62] w17 (fun _ _ => False) fun t63 w18 =>
ast 4 t2 t63 w18 fun w19 =>
aldN 4 t2 w19 fun r0 =>
R (.ret r0) w19) (aar .eql t6 (.i 24) fun t65 =>
acnd t65 (afld 3 t1 fun t66 =>
ald1 t66 w5 fun t67 =>
aidxS 4 t67 (.i 0) fun t68 =>
aldN 4 t68 w5 fun t69 =>
afld 3 t1 fun t70 =>
ald1 t70 w5 fun t71 =>
aidxS 4 t71 (.i 1) fun t72 =>
aldN 4 t72 w5 fun t73 =>
acallS pr 78 [.i 22, t69, t73] w5 (fun _ _ => False) fun t74 w20 =>
afld 3 t1 fun t75 =>
ald1 t75 w20 fun t76 =>
aidxS 4 t76 (.i 1) fun t77 =>
aldN 4 t77 w20 fun t78 =>
afld 3 t1 fun t79 =>
ald1 t79 w20 fun t80 =>
aidxS 4 t80 (.i 0) fun t81 =>
aldN 4 t81 w20 fun t82 =>
acallS pr 78 [.i 22, t78, t82] w20 (fun _ _ => False) fun t83 w21 =>
acallS pr 78 [.i 19, t74, t83] w21 (fun _ _ => False) fun t84 w22 =>
ast 4 t2 t84 w22 fun w23 =>
aldN 4 t2 w23 fun r0 =>
R (.ret r0) w23) (aar .eql t6 (.i 26) fun t86 =>
acnd t86 (afld 3 t1 fun t87 =>
ald1 t87 w5 fun t88 =>
aidxS 4 t88 (.i 0) fun t89 =>
aldN 4 t89 w5 fun t90 =>
afld 3 t1 fun t91 =>
ald1 t91 w5 fun t92 =>
aidxS 4 t92 (.i 1) fun t93 =>
aldN 4 t93 w5 fun t94 =>
acallS pr 80 [t90, t94] w5 (fun _ _ => False) fun t95 w24 =>
ast 4 t2 t95 w24 fun w25 =>
aldN 4 t2 w25 fun r0 =>
R (.ret r0) w25) (aar .eql t6 (.i 25) fun t97 =>
acnd t97 (afld 3 t1 fun t98 =>
ald1 t98 w5 fun t99 =>
aidxS 4 t99 (.i 0) fun t100 =>
aldN 4 t100 w5 fun t101 =>
acallS pr 81 [t101] w5 (fun _ _ => False) fun t102 w26 =>
afld 3 t1 fun t103 =>
ald1 t103 w26 fun t104 =>
aidxS 4 t104 (.i 1) fun t105 =>
aldN 4 t105 w26 fun t106 =>
acallS pr 80 [t102, t106] w26 (fun _ _ => False) fun t107 w27 =>
ast 4 t2 t107 w27 fun w28 =>
aldN 4 t2 w28 fun r0 =>
R (.ret r0) w28) (aar .eql t6 (.i 28) fun t109 =>
acnd t109 (afld 3 t1 fun t110 =>
ald1 t110 w5 fun t111 =>
aidxS 4 t111 (.i 0) fun t112 =>
aldN 4 t112 w5 fun t113 =>
acallS pr 81 [t113] w5 (fun _ _ => False) fun t114 w29 =>
afld 3 t1 fun t115 =>
ald1 t115 w29 fun t116 =>
aidxS 4 t116 (.i 1) fun t117 =>
aldN 4 t117 w29 fun t118 =>
acallS pr 81 [t118] w29 (fun _ _ => False) fun t119 w30 =>
acallS pr 80 [t114, t119] w30 (fun _ _ => False) fun t120 w31 =>
ast 4 t2 t120 w31 fun w32 =>
aldN 4 t2 w32 fun r0 =>
R (.ret r0) w32) (aar .eql t6 (.i 27) fun t122 =>
acnd t122 (afld 3 t1 fun t123 =>
ald1 t123 w5 fun t124 =>
aidxS 4 t124 (.i 0) fun t125 =>
aldN 4 t125 w5 fun t126 =>
afld 3 t1 fun t127 =>
ald1 t127 w5 fun t128 =>
aidxS 4 t128 (.i 1) fun t129 =>
aldN 4 t129 w5 fun t130 =>
acallS pr 80 [t126, t130] w5 (fun _ _ => False) fun t131 w33 =>
afld 3 t1 fun t132 =>
ald1 t132 w33 fun t133 =>
aidxS 4 t133 (.i 1) fun t134 =>
aldN 4 t134 w33 fun t135 =>
afld 3 t1 fun t136 =>
ald1 t136 w33 fun t137 =>
aidxS 4 t137 (.i 0) fun t138 =>
aldN 4 t138 w33 fun t139 =>
acallS pr 80 [t135, t139] w33 (fun _ _ => False) fun t140 w34 =>
acallS pr 78 [.i 19, t131, t140] w34 (fun _ _ => False) fun t141 w35 =>
ast 4 t2 t141 w35 fun w36 =>
aldN 4 t2 w36 fun r0 =>
R (.ret r0) w36) (aldN 4 t1 w5 fun t142 =>
ast 4 t2 t142 w5 fun w37 =>
aldN 4 t2 w37 fun r0 =>
R (.ret r0) w37))))))))) fun j6 =>
aar .eql t6 (.i 19) fun t15 =>
acnd t15 (j6 [t15] w2) (aar .eql t6 (.i 20) fun t16 =>
j6 [t16] w2))
theorem A44_eq : A44 = fun a0 L R => aex pr ⟨[(12, [14]), (17, [4])], [(10, [(0, 0), (1, 0), (2, 0), (3, 0), (4, 0), (5, 0), (6, 0), (7, 0), (8, 0), (9, 2), (10, 0), (11, 2)]), (13, [(0, 0), (1, 0), (2, 0), (3, 0), (4, 0), (5, 0), (6, 0), (7, 0), (8, 0), (9, 0), (10, 0), (11, 2)]), (15, [(0, 0), (1, 0), (2, 0), (3, 0), (4, 0), (5, 0), (6, 0), (7, 0), (8, 0), (9, 0), (10, 2)]), (17, [(0, 0), (1, 0), (2, 0), (3, 0), (4, 0), (5, 0), (6, 0), (7, 0), (8, 0), (9, 0), (10, 0), (11, 0), (12, 0), (13, 0), (14, 0), (15, 0), (16, 0), (17, 0), (18, 0), (19, 2)]), (19, [(0, 0), (1, 0), (2, 0), (3, 0), (4, 0), (5, 0), (6, 0), (7, 0), (8, 0), (9, 2)]), (21, [(0, 0), (1, 0), (2, 0), (3, 0), (4, 0), (5, 0), (6, 0), (7, 0), (8, 0), (9, 0), (10, 2)]), (23, [(0, 0), (1, 0), (2, 0), (3, 0), (4, 0), (5, 0), (6, 0), (7, 0), (8, 0), (9, 0), (10, 0), (11, 2)]), (25, [(0, 0), (1, 0), (2, 0), (3, 0), (4, 0), (5, 0), (6, 0), (7, 0), (8, 0), (9, 0), (10, 0), (11, 0), (12, 0), (13, 0), (14, 0), (15, 0), (16, 0), (17, 0), (18, 0), (19, 2)])]⟩ (bodyOf fn44) (aenv0 [a0]) L (apost pr fn44.results.toList R) := by kernel_rfl
theorem s44 {a0 : D} {L : List Bx} {R : AE → List Bx → Prop} (h : A44 a0 L R) : ASpec pr 44 [a0] L R :=
  aspec_of (A := ⟨[(12, [14]), (17, [4])], [(10, [(0, 0), (1, 0), (2, 0), (3, 0), (4, 0), (5, 0), (6, 0), (7, 0), (8, 0), (9, 2), (10, 0), (11, 2)]), (13, [(0, 0), (1, 0), (2, 0), (3, 0), (4, 0), (5, 0), (6, 0), (7, 0), (8, 0), (9, 0), (10, 0), (11, 2)]), (15, [(0, 0), (1, 0), (2, 0), (3, 0), (4, 0), (5, 0), (6, 0), (7, 0), (8, 0), (9, 0), (10, 2)]), (17, [(0, 0), (1, 0), (2, 0), (3, 0), (4, 0), (5, 0), (6, 0), (7, 0), (8, 0), (9, 0), (10, 0), (11, 0), (12, 0), (13, 0), (14, 0), (15, 0), (16, 0), (17, 0), (18, 0), (19, 2)]), (19, [(0, 0), (1, 0), (2, 0), (3, 0), (4, 0), (5, 0), (6, 0), (7, 0), (8, 0), (9, 2)]), (21, [(0, 0), (1, 0), (2, 0), (3, 0), (4, 0), (5, 0), (6, 0), (7, 0), (8, 0), (9, 0), (10, 2)]), (23, [(0, 0), (1, 0), (2, 0), (3, 0), (4, 0), (5, 0), (6, 0), (7, 0), (8, 0), (9, 0), (10, 0), (11, 2)]), (25, [(0, 0), (1, 0), (2, 0), (3, 0), (4, 0), (5, 0), (6, 0), (7, 0), (8, 0), (9, 0), (10, 0), (11, 0), (12, 0), (13, 0), (14, 0), (15, 0), (16, 0), (17, 0), (18, 0), (19, 2)])]⟩) (fn := fn44) 1 mixed Tryd.func44 (by kernel_rfl) (by decide) rfl (by kernel_rfl) (by rw [A44_eq] at h; exact h)
noncomputable abbrev fn77 : Func := Tryd.f77
/- ashlar/ashlarref06.down -/
def A77 (a0 : D) (L : List Bx) (R : AE → List Bx → Prop) : Prop :=
abxv a0 L fun t1 w1 =>
abx [.i 0, .s ⟨#[]⟩, .i 0, .nil] w1 fun t2 w2 =>
afld 0 t1 fun t5 =>
ald1 t5 w2 fun t6 =>
aar .eql t6 (.i 16) fun t8 =>
acnd t8 (abld [.i 0, .s ⟨#[]⟩, .i 0, .nil] [(0, 1, .i 17)] fun t9 =>
ast 4 t2 t9 w2 fun w3 =>
aldN 4 t2 w3 fun r0 =>
R (.ret r0) w3) (aar .eql t6 (.i 17) fun t11 =>
acnd t11 (abld [.i 0, .s ⟨#[]⟩, .i 0, .nil] [(0, 1, .i 16)] fun t12 =>
ast 4 t2 t12 w2 fun w4 =>
aldN 4 t2 w4 fun r0 =>
R (.ret r0) w4) (aar .eql t6 (.i 18) fun t14 =>
acnd t14 (afld 3 t1 fun t15 =>
ald1 t15 w2 fun t16 =>
aidxS 4 t16 (.i 0) fun t17 =>
aldN 4 t17 w2 fun t18 =>
acallW pr 44 [t18] w2 (apn R) fun t19 w5 =>
ast 4 t2 t19 w5 fun w6 =>
aldN 4 t2 w6 fun r0 =>
R (.ret r0) w6) (ajn (fun v10 w7 =>
acnd (aix v10 0) (afld 0 t1 fun t23 =>
ald1 t23 w7 fun t24 =>
aar .sub (.i 39) t24 fun t25 =>
abld [.i 0, .s ⟨#[]⟩, .i 0, .nil] [(0, 1, t25)] fun t26 =>
abx [.i 0, .s ⟨#[]⟩, .i 0, .nil] w7 fun t3 w8 =>
ast 4 t3 t26 w8 fun w9 =>
alp [.i 0] w9 fun v12 w10 k12 =>
afld 3 t1 fun t28 =>
ald1 t28 w10 fun t29 =>
alenL t29 fun t30 =>
aar .lss (aix v12 0) t30 fun t31 =>
acnd t31 (afld 3 t3 fun t34 =>
ald1 t34 w10 fun t35 =>
afld 3 t1 fun t36 =>
ald1 t36 w10 fun t37 =>
aidxS 4 t37 (aix v12 0) fun t39 =>
aldN 4 t39 w10 fun t40 =>
acallS pr 77 [t40] w10 (fun _ _ => False) fun t41 w11 =>
abldF 4 1 [.i 0, .s ⟨#[]⟩, .i 0, .nil] [(0, 4, t41)] fun t42 =>
aapp 24 4 56 t35 t42 w11 fun t43 w12 =>
afld 3 t3 fun t44 =>
ast 1 t44 t43 w12 fun w13 =>
aar .add (aix v12 0) (.i 1) fun t33 =>
k12 [t33] w13) (aldN 4 t3 w10 fun t45 =>
ast 4 t2 t45 w10 fun w14 =>
aldN 4 t2 w14 fun r0 =>
R (.ret r0) w14)) (aar .eql t6 (.i 21) fun t47 =>
acnd t47 (afld 3 t1 fun t48 =>
ald1 t48 w7 fun t49 =>
aidxS 4 t49 (.i 0) fun t50 =>
aldN 4 t50 w7 fun t51 =>
acallS pr 44 [t51] w7 (fun _ _ => False) fun t52 w15 =>
afld 3 t1 fun t53 =>
ald1 t53 w15 fun t54 =>
aidxS 4 t54 (.i 1) fun t55 =>
aldN 4 t55 w15 fun t56 =>
acallS pr 77 [t56] w15 (fun _ _ => False) fun t57 w16 =>
acallS pr 78 [.i 19, t52, t57] w16 (fun _ _ => False) fun t58 w17 =>
ast 4 t2 t58 w17 fun w18 =>
aldN 4 t2 w18 fun r0 =>
R (.ret r0) w18) (aar .eql t6 (.i 23) fun t60 =>
acnd t60 (afld 3 t1 fun t61 =>
ald1 t61 w7 fun t62 =>
aidxS 4 t62 (.i 1) fun t63 =>
aldN 4 t63 w7 fun t64 =>
afld 3 t1 fun t65 =>
ald1 t65 w7 fun t66 =>
aidxS 4 t66 (.i 0) fun t67 =>
aldN 4 t67 w7 fun t68 =>
acallS pr 78 [.i 22, t64, t68] w7 (fun _ _ => False) fun t69 w19 =>
ast 4 t2 t69 w19 fun w20 =>
aldN 4 t2 w20 fun r0 =>
R (.ret r0) w20) (aar .eql t6 (.i 24) fun t71 =>
acnd t71 (afld 3 t1 fun t72 =>
ald1 t72 w7 fun t73 =>
aidxS 4 t73 (.i 0) fun t74 =>
aldN 4 t74 w7 fun t75 =>
afld 3 t1 fun t76 =>
ald1 t76 w7 fun t77 =>
aidxS 4 t77 (.i 1) fun t78 =>
aldN 4 t78 w7 fun t79 =>
acallS pr 78 [.i 22, t75, t79] w7 (fun _ _ => False) fun t80 w21 =>
acallS pr 79 [t80] w21 (fun _ _ => False) fun t81 w22 =>
afld 3 t1 fun t82 =>
ald1 t82 w22 fun t83 =>
aidxS 4 t83 (.i 1) fun t84 =>
aldN 4 t84 w22 fun t85 =>
afld 3 t1 fun t86 =>
ald1 t86 w22 fun t87 =>
aidxS 4 t87 (.i 0) fun t88 =>
aldN 4 t88 w22 fun t89 =>
acallS pr 78 [.i 22, t85, t89] w22 (fun _ _ => False) fun t90 w23 =>
acallS pr 79 [t90] w23 (fun _ _ => False) fun t91 w24 =>
acallS pr 78 [.i 20, t81, t91] w24 (fun _ _ => False) fun t92 w25 =>
ast 4 t2 t92 w25 fun w26 =>
aldN 4 t2 w26 fun r0 =>
R (.ret r0) w26) (aar .eql t6 (.i 27) fun t94 =>
acnd t94 (afld 3 t1 fun t95 =>
ald1 t95 w7 fun t96 =>
aidxS 4 t96 (.i 0) fun t97 =>
aldN 4 t97 w7 fun t98 =>
afld 3 t1 fun t99 =>
ald1 t99 w7 fun t100 =>
aidxS 4 t100 (.i 1) fun t101 =>
aldN 4 t101 w7 fun t102 =>
acallS pr 80 [t98, t102] w7 (fun _ _ => False) fun t103 w27 =>
acallS pr 79 [t103] w27 (fun _ _ => False) fun t104 w28 =>
afld 3 t1 fun t105 =>
ald1 t105 w28 fun t106 =>
aidxS 4 t106 (.i 1) fun t107 =>
aldN 4 t107 w28 fun t108 =>
afld 3 t1 fun t109 =>
ald1 t109 w28 fun t110 =>
aidxS 4 t110 (.i 0) fun t111 =>
aldN 4 t111 w28 fun t112 =>
acallS pr 80 [t108, t112] w28 (fun _ _ => False) fun t113 w29 =>
acallS pr 79 [t113] w29 (fun _ _ => False) fun t114 w30 =>
acallS pr 78 [.i 20, t104, t114] w30 (fun _ _ => False) fun t115 w31 =>
ast 4 t2 t115 w31 fun w32 =>
aldN 4 t2 w32 fun r0 =>
R (.ret r0) w32) (aldN 4 t1 w7 fun t116 =>
acallW pr 44 [t116] w7 (apn R) fun t117 w33 =>
acallW pr 79 [t117] w33 (apn R) fun t118 w34 =>
ast 4 t2 t118 w34 fun w35 =>
aldN 4 t2 w35 fun r0 =>
R (.ret r0) w35)))))) fun j10 =>
aar .eql t6 (.i 19) fun t21 =>
acnd t21 (j10 [t21] w2) (aar .eql t6 (.i 20) fun t22 =>
j10 [t22] w2))))
theorem A77_eq : A77 = fun a0 L R => aex pr ⟨[(20, [20]), (25, [4])], [(14, [(0, 0), (1, 0), (2, 0), (3, 0), (4, 0), (5, 0), (6, 0), (7, 0), (8, 0), (9, 2), (10, 0), (11, 2)]), (17, [(0, 0), (1, 0), (2, 0), (3, 0), (4, 0), (5, 0), (6, 0), (7, 0), (8, 0), (9, 0), (10, 0), (11, 2)]), (19, [(0, 0), (1, 0), (2, 0), (3, 0), (4, 0), (5, 0), (6, 0), (7, 0), (8, 0), (9, 2)]), (21, [(0, 0), (1, 0), (2, 0), (3, 0), (4, 0), (5, 0), (6, 0), (7, 0), (8, 0), (9, 0), (10, 0), (11, 0), (12, 0), (13, 0), (14, 0), (15, 0), (16, 0), (17, 0), (18, 0), (19, 0), (20, 0), (21, 2)]), (23, [(0, 0), (1, 0), (2, 0), (3, 0), (4, 0), (5, 0), (6, 0), (7, 0), (8, 0), (9, 0), (10, 0), (11, 0), (12, 0), (13, 0), (14, 0), (15, 0), (16, 0), (17, 0), (18, 0), (19, 0), (20, 0), (21, 2)])]⟩ (bodyOf fn77) (aenv0 [a0]) L (apost pr fn77.results.toList R) := by kernel_rfl
theorem s77 {a0 : D} {L : List Bx} {R : AE → List Bx → Prop} (h : A77 a0 L R) : ASpec pr 77 [a0] L R :=
  aspec_of (A := ⟨[(20, [20]), (25, [4])], [(14, [(0, 0), (1, 0), (2, 0), (3, 0), (4, 0), (5, 0), (6, 0), (7, 0), (8, 0), (9, 2), (10, 0), (11, 2)]), (17, [(0, 0), (1, 0), (2, 0), (3, 0), (4, 0), (5, 0), (6, 0), (7, 0), (8, 0), (9, 0), (10, 0), (11, 2)]), (19, [(0, 0), (1, 0), (2, 0), (3, 0), (4, 0), (5, 0), (6, 0), (7, 0), (8, 0), (9, 2)]), (21, [(0, 0), (1, 0), (2, 0), (3, 0), (4, 0), (5, 0), (6, 0), (7, 0), (8, 0), (9, 0), (10, 0), (11, 0), (12, 0), (13, 0), (14, 0), (15, 0), (16, 0), (17, 0), (18, 0), (19, 0), (20, 0), (21, 2)]), (23, [(0, 0), (1, 0), (2, 0), (3, 0), (4, 0), (5, 0), (6, 0), (7, 0), (8, 0), (9, 0), (10, 0), (11, 0), (12, 0), (13, 0), (14, 0), (15, 0), (16, 0), (17, 0), (18, 0), (19, 0), (20, 0), (21, 2)])]⟩) (fn := fn77) 1 mixed Tryd.func77 (by kernel_rfl) (by decide) rfl (by kernel_rfl) (by rw [A77_eq] at h; exact h)
noncomputable abbrev fn78 : Func := Tryd.f78
/- ashlar/ashlarref06.two -/
def A78 (a0 a1 a2 : D) (L : List Bx) (R : AE → List Bx → Prop) : Prop :=
abxv a1 L fun t4 w1 =>
abxv a2 w1 fun t5 w2 =>
abx [.i 0, .s ⟨#[]⟩, .i 0, .nil] w2 fun t6 w3 =>
aldN 4 t4 w3 fun t8 =>
aldN 4 t5 w3 fun t9 =>
abldS 24 4 2 [.i 0, .s ⟨#[]⟩, .i 0, .nil, .i 0, .s ⟨#[]⟩, .i 0, .nil] [(0, 4, t8), (4, 4, t9)] w3 fun t10 w4 =>
abld [.i 0, .s ⟨#[]⟩, .i 0, .nil] [(0, 1, a0), (3, 1, t10)] fun t11 =>
ast 4 t6 t11 w4 fun w5 =>
aldN 4 t6 w5 fun r0 =>
R (.ret r0) w5
theorem A78_eq : A78 = fun a0 a1 a2 L R => aex pr ⟨[], []⟩ (bodyOf fn78) (aenv0 [a0, a1, a2]) L (apost pr fn78.results.toList R) := by kernel_rfl
theorem s78 {a0 a1 a2 : D} {L : List Bx} {R : AE → List Bx → Prop} (h : A78 a0 a1 a2 L R) : ASpec pr 78 [a0, a1, a2] L R :=
  aspec_of (A := ⟨[], []⟩) (fn := fn78) 3 mixed Tryd.func78 (by kernel_rfl) (by decide) rfl (by kernel_rfl) (by rw [A78_eq] at h; exact h)
noncomputable abbrev fn79 : Func := Tryd.f79
/- ashlar/ashlarref06.not -/
def A79 (a0 : D) (L : List Bx) (R : AE → List Bx → Prop) : Prop :=
abxv a0 L fun t1 w1 =>
abx [.i 0, .s ⟨#[]⟩, .i 0, .nil] w1 fun t2 w2 =>
aldN 4 t1 w2 fun t3 =>
abldS 24 4 1 [.i 0, .s ⟨#[]⟩, .i 0, .nil] [(0, 4, t3)] w2 fun t4 w3 =>
abld [.i 0, .s ⟨#[]⟩, .i 0, .nil] [(0, 1, .i 18), (3, 1, t4)] fun t5 =>
ast 4 t2 t5 w3 fun w4 =>
aldN 4 t2 w4 fun r0 =>
R (.ret r0) w4
theorem A79_eq : A79 = fun a0 L R => aex pr ⟨[], []⟩ (bodyOf fn79) (aenv0 [a0]) L (apost pr fn79.results.toList R) := by kernel_rfl
theorem s79 {a0 : D} {L : List Bx} {R : AE → List Bx → Prop} (h : A79 a0 L R) : ASpec pr 79 [a0] L R :=
  aspec_of (A := ⟨[], []⟩) (fn := fn79) 1 mixed Tryd.func79 (by kernel_rfl) (by decide) rfl (by kernel_rfl) (by rw [A79_eq] at h; exact h)
noncomputable abbrev fn80 : Func := Tryd.f80
/- ashlar/ashlarref06.within -/
def A80 (a0 a1 : D) (L : List Bx) (R : AE → List Bx → Prop) : Prop :=
abxv a0 L fun t2 w1 =>
abxv a1 w1 fun t3 w2 =>
abx [.i 0, .s ⟨#[]⟩, .i 0, .nil] w2 fun t4 w3 =>
aldN 4 t2 w3 fun t6 =>
aldN 4 t3 w3 fun t7 =>
acallW pr 78 [.i 13, t6, t7] w3 (apn R) fun t8 w4 =>
abldS 24 4 1 [.i 0, .s ⟨#[]⟩, .i 0, .nil] [(0, 4, t8)] w4 fun t9 w5 =>
abld [.i 0, .s ⟨#[]⟩, .i 0, .nil] [(0, 1, .i 3), (3, 1, t9)] fun t10 =>
abx [.i 0, .s ⟨#[]⟩, .i 0, .nil] w5 fun t5 w6 =>
ast 4 t5 t10 w6 fun w7 =>
aldN 4 t5 w7 fun t11 =>
abld [.i 0, .s ⟨#[]⟩, .i 0, .nil] [(0, 1, .i 1)] fun t12 =>
acallW pr 78 [.i 22, t11, t12] w7 (apn R) fun t13 w8 =>
ast 4 t4 t13 w8 fun w9 =>
aldN 4 t4 w9 fun r0 =>
R (.ret r0) w9
theorem A80_eq : A80 = fun a0 a1 L R => aex pr ⟨[], []⟩ (bodyOf fn80) (aenv0 [a0, a1]) L (apost pr fn80.results.toList R) := by kernel_rfl
theorem s80 {a0 a1 : D} {L : List Bx} {R : AE → List Bx → Prop} (h : A80 a0 a1 L R) : ASpec pr 80 [a0, a1] L R :=
  aspec_of (A := ⟨[], []⟩) (fn := fn80) 2 mixed Tryd.func80 (by kernel_rfl) (by decide) rfl (by kernel_rfl) (by rw [A80_eq] at h; exact h)
noncomputable abbrev fn81 : Func := Tryd.f81
/- ashlar/ashlarref06.one -/
def A81 (a0 : D) (L : List Bx) (R : AE → List Bx → Prop) : Prop :=
abxv a0 L fun t1 w1 =>
abx [.i 0, .s ⟨#[]⟩, .i 0, .nil] w1 fun t2 w2 =>
aldN 4 t1 w2 fun t3 =>
abldS 24 4 1 [.i 0, .s ⟨#[]⟩, .i 0, .nil] [(0, 4, t3)] w2 fun t4 w3 =>
abld [.i 0, .s ⟨#[]⟩, .i 0, .nil] [(0, 1, .i 10), (3, 1, t4)] fun t5 =>
ast 4 t2 t5 w3 fun w4 =>
aldN 4 t2 w4 fun r0 =>
R (.ret r0) w4
theorem A81_eq : A81 = fun a0 L R => aex pr ⟨[], []⟩ (bodyOf fn81) (aenv0 [a0]) L (apost pr fn81.results.toList R) := by kernel_rfl
theorem s81 {a0 : D} {L : List Bx} {R : AE → List Bx → Prop} (h : A81 a0 L R) : ASpec pr 81 [a0] L R :=
  aspec_of (A := ⟨[], []⟩) (fn := fn81) 1 mixed Tryd.func81 (by kernel_rfl) (by decide) rfl (by kernel_rfl) (by rw [A81_eq] at h; exact h)
noncomputable abbrev fn19 : Func := Tryd.f19
/- ashlar/ashlarref06.Norm -/
def A19 (a0 : D) (L : List Bx) (R : AE → List Bx → Prop) : Prop :=
abxv a0 L fun t1 w1 =>
abx [.i 0, .s ⟨#[]⟩, .i 0, .nil] w1 fun t2 w2 =>
aldN 4 t1 w2 fun t8 =>
acallW pr 34 [t8] w2 (apn R) fun t9 w3 =>
aext 0 t9 fun t10 =>
aext 1 t9 fun t11 =>
aar .neq t11 (.i 0) fun t13 =>
acnd t13 (abld [.i 0, .s ⟨#[]⟩, .i 0, .nil] [] fun t14 =>
ast 4 t2 t14 w3 fun w4 =>
aldN 4 t2 w4 fun r0 =>
R (.ret (.tuple [r0, t11])) w4) (aar .neq t10 (.i 4) fun t17 =>
acnd t17 (abld [.i 0, .s ⟨#[]⟩, .i 0, .nil] [] fun t18 =>
ast 4 t2 t18 w3 fun w5 =>
aldN 4 t2 w5 fun r0 =>
R (.ret (.tuple [r0, .i 3])) w5) (aldN 4 t1 w3 fun t19 =>
acallW pr 44 [t19] w3 (apn R) fun t20 w6 =>
abx [.i 0, .s ⟨#[]⟩, .i 0, .nil] w6 fun t6 w7 =>
ast 4 t6 t20 w7 fun w8 =>
aldN 4 t6 w8 fun t22 =>
acallW pr 34 [t22] w8 (apn R) fun t23 w9 =>
aext 0 t23 fun t24 =>
aext 1 t23 fun t25 =>
aar .neq t25 (.i 0) fun t27 =>
acnd t27 (abld [.i 0, .s ⟨#[]⟩, .i 0, .nil] [] fun t28 =>
ast 4 t2 t28 w9 fun w10 =>
aldN 4 t2 w10 fun r0 =>
R (.ret (.tuple [r0, .i 7])) w10) (aldN 4 t6 w9 fun t29 =>
ast 4 t2 t29 w9 fun w11 =>
aldN 4 t2 w11 fun r0 =>
R (.ret (.tuple [r0, .i 0])) w11)))
theorem A19_eq : A19 = fun a0 L R => aex pr ⟨[], []⟩ (bodyOf fn19) (aenv0 [a0]) L (apost pr fn19.results.toList R) := by kernel_rfl
theorem s19 {a0 : D} {L : List Bx} {R : AE → List Bx → Prop} (h : A19 a0 L R) : ASpec pr 19 [a0] L R :=
  aspec_of (A := ⟨[], []⟩) (fn := fn19) 1 mixed Tryd.func19 (by kernel_rfl) (by decide) rfl (by kernel_rfl) (by rw [A19_eq] at h; exact h)
noncomputable abbrev fn47 : Func := Tryd.f47
/- ashlar/ashlarref06.is -/
def A47 (a0 : D) (L : List Bx) (R : AE → List Bx → Prop) : Prop :=
abxv a0 L fun t1 w1 =>
ajn (fun v12 w2 =>
afld 0 t1 fun t39 =>
ald1 t39 w2 fun t40 =>
aar .eql t40 (.i 16) fun t41 =>
acnd t41 (R (.ret (.b true)) w2) (afld 0 t1 fun t43 =>
ald1 t43 w2 fun t44 =>
aar .eql t44 (.i 17) fun t45 =>
acnd t45 (R (.ret (.b true)) w2) (afld 0 t1 fun t48 =>
ald1 t48 w2 fun t49 =>
aar .eql t49 (.i 15) fun t50 =>
acnd t50 (R (.ret (.b true)) w2) (afld 0 t1 fun t53 =>
ald1 t53 w2 fun t54 =>
aar .eql t54 (.i 22) fun t55 =>
R (.ret t55) w2)))) fun j12 =>
afld 0 t1 fun t4 =>
ald1 t4 w1 fun t5 =>
ajn (fun v4 w3 =>
acnd (aix v4 0) (alp [.i 0] w3 fun v5 w4 k5 =>
afld 3 t1 fun t10 =>
ald1 t10 w4 fun t11 =>
alenL t11 fun t12 =>
aar .lss (aix v5 0) t12 fun t13 =>
acnd t13 (afld 3 t1 fun t16 =>
ald1 t16 w4 fun t17 =>
aidxS 4 t17 (aix v5 0) fun t19 =>
aldN 4 t19 w4 fun t20 =>
acallW pr 47 [t20] w4 (apn R) fun t21 w5 =>
anotb t21 fun t22 =>
acnd t22 (R (.ret (.b false)) w5) (aar .add (aix v5 0) (.i 1) fun t15 =>
k5 [t15] w5)) (R (.ret (.b true)) w4)) (aar .eql t5 (.i 18) fun t24 =>
acnd t24 (afld 3 t1 fun t25 =>
ald1 t25 w3 fun t26 =>
aidxS 4 t26 (.i 0) fun t27 =>
afld 0 t27 fun t28 =>
ald1 t28 w3 fun t29 =>
aar .eql t29 (.i 15) fun t30 =>
acnd t30 (R (.ret (.b true)) w3) (afld 3 t1 fun t32 =>
ald1 t32 w3 fun t33 =>
aidxS 4 t33 (.i 0) fun t34 =>
afld 0 t34 fun t35 =>
ald1 t35 w3 fun t36 =>
aar .eql t36 (.i 22) fun t37 =>
R (.ret t37) w3)) (j12 [] w3))) fun j4 =>
aar .eql t5 (.i 19) fun t7 =>
acnd t7 (j4 [t7] w1) (aar .eql t5 (.i 20) fun t8 =>
j4 [t8] w1)
theorem A47_eq : A47 = fun a0 L R => aex pr ⟨[(8, [6]), (11, [3]), (24, [])], []⟩ (bodyOf fn47) (aenv0 [a0]) L (apost pr fn47.results.toList R) := by kernel_rfl
theorem s47 {a0 : D} {L : List Bx} {R : AE → List Bx → Prop} (h : A47 a0 L R) : ASpec pr 47 [a0] L R :=
  aspec_of (A := ⟨[(8, [6]), (11, [3]), (24, [])], []⟩) (fn := fn47) 1 mixed Tryd.func47 (by kernel_rfl) (by decide) rfl (by kernel_rfl) (by rw [A47_eq] at h; exact h)
noncomputable abbrev fn22 : Func := Tryd.f22
/- ashlar/ashlarref06.Is -/
def A22 (a0 : D) (L : List Bx) (R : AE → List Bx → Prop) : Prop :=
abxv a0 L fun t1 w1 =>
aldN 4 t1 w1 fun t6 =>
acallW pr 34 [t6] w1 (apn R) fun t7 w2 =>
aext 0 t7 fun t8 =>
aext 1 t7 fun t9 =>
aar .eql t9 (.i 0) fun t11 =>
acnd t11 (aar .eql t8 (.i 4) fun t14 =>
acnd t14 (aldN 4 t1 w2 fun t17 =>
acallW pr 47 [t17] w2 (apn R) fun t18 w3 =>
R (.ret t18) w3) (R (.ret (.b false)) w2)) (R (.ret (.b false)) w2)
theorem A22_eq : A22 = fun a0 L R => aex pr ⟨[], []⟩ (bodyOf fn22) (aenv0 [a0]) L (apost pr fn22.results.toList R) := by kernel_rfl
theorem s22 {a0 : D} {L : List Bx} {R : AE → List Bx → Prop} (h : A22 a0 L R) : ASpec pr 22 [a0] L R :=
  aspec_of (A := ⟨[], []⟩) (fn := fn22) 1 mixed Tryd.func22 (by kernel_rfl) (by decide) rfl (by kernel_rfl) (by rw [A22_eq] at h; exact h)
noncomputable abbrev fn17 : Func := Tryd.f17
/- ashlar/ashlarlaw06.shown -/
def A17 (L : List Bx) (R : AE → List Bx → Prop) : Prop :=
abld [.i 0, .s ⟨#[]⟩, .i 0, .nil] [(0, 1, .i 2), (1, 1, .s ⟨#[120]⟩)] fun t7 =>
abx [.i 0, .s ⟨#[]⟩, .i 0, .nil] L fun t1 w1 =>
ast 4 t1 t7 w1 fun w2 =>
abld [.i 0, .s ⟨#[]⟩, .i 0, .nil] [(0, 1, .i 2), (1, 1, .s ⟨#[121]⟩)] fun t8 =>
abx [.i 0, .s ⟨#[]⟩, .i 0, .nil] w2 fun t2 w3 =>
ast 4 t2 t8 w3 fun w4 =>
aldN 4 t1 w4 fun t10 =>
aldN 4 t2 w4 fun t11 =>
abldS 24 4 2 [.i 0, .s ⟨#[]⟩, .i 0, .nil, .i 0, .s ⟨#[]⟩, .i 0, .nil] [(0, 4, t10), (4, 4, t11)] w4 fun t12 w5 =>
abld [.i 0, .s ⟨#[]⟩, .i 0, .nil] [(0, 1, .i 23), (3, 1, t12)] fun t13 =>
abldS 24 4 1 [.i 0, .s ⟨#[]⟩, .i 0, .nil] [(0, 4, t13)] w5 fun t14 w6 =>
abld [.i 0, .s ⟨#[]⟩, .i 0, .nil] [(0, 1, .i 18), (3, 1, t14)] fun t15 =>
acallW pr 18 [t15] w6 (apn R) fun t16 w7 =>
aext 0 t16 fun t17 =>
aext 1 t16 fun t18 =>
abx [.i 0, .s ⟨#[]⟩, .i 0, .nil] w7 fun t3 w8 =>
ast 4 t3 t17 w8 fun w9 =>
aldN 4 t1 w9 fun t20 =>
acallW pr 18 [t20] w9 (apn R) fun t21 w10 =>
aext 0 t21 fun t22 =>
aext 1 t21 fun t23 =>
abx [.i 0, .s ⟨#[]⟩, .i 0, .nil] w10 fun t5 w11 =>
ast 4 t5 t22 w11 fun w12 =>
aar .eql t18 (.i 0) fun t25 =>
acnd t25 (aldN 4 t3 w12 fun t27 =>
aldN 4 t2 w12 fun t28 =>
aldN 4 t1 w12 fun t29 =>
abldS 24 4 2 [.i 0, .s ⟨#[]⟩, .i 0, .nil, .i 0, .s ⟨#[]⟩, .i 0, .nil] [(0, 4, t28), (4, 4, t29)] w12 fun t30 w13 =>
abld [.i 0, .s ⟨#[]⟩, .i 0, .nil] [(0, 1, .i 22), (3, 1, t30)] fun t31 =>
acallW pr 20 [t27, t31] w13 (apn R) fun t32 w14 =>
acnd t32 (aar .eql t23 (.i 3) fun t36 =>
acnd t36 (aldN 4 t3 w14 fun t39 =>
acallW pr 21 [t39] w14 (apn R) fun t40 w15 =>
acnd t40 (aldN 4 t1 w15 fun t43 =>
aldN 4 t2 w15 fun t44 =>
abldS 24 4 2 [.i 0, .s ⟨#[]⟩, .i 0, .nil, .i 0, .s ⟨#[]⟩, .i 0, .nil] [(0, 4, t43), (4, 4, t44)] w15 fun t45 w16 =>
abld [.i 0, .s ⟨#[]⟩, .i 0, .nil] [(0, 1, .i 23), (3, 1, t45)] fun t46 =>
acallW pr 21 [t46] w16 (apn R) fun t47 w17 =>
anotb t47 fun t48 =>
R (.ret t48) w17) (R (.ret (.b false)) w15)) (R (.ret (.b false)) w14)) (R (.ret (.b false)) w14)) (R (.ret (.b false)) w12)
theorem A17_eq : A17 = fun  L R => aex pr ⟨[], []⟩ (bodyOf fn17) (aenv0 []) L (apost pr fn17.results.toList R) := by kernel_rfl
theorem s17 {L : List Bx} {R : AE → List Bx → Prop} (h : A17  L R) : ASpec pr 17 [] L R :=
  aspec_of (A := ⟨[], []⟩) (fn := fn17) 0 mixed Tryd.func17 (by kernel_rfl) (by decide) rfl (by kernel_rfl) (by rw [A17_eq] at h; exact h)
noncomputable abbrev fn3 : Func := Tryd.f3
/- ashlar/ashlarlaw06.NormTells -/
def A3 (a0 : D) (L : List Bx) (R : AE → List Bx → Prop) : Prop :=
abxv a0 L fun t1 w1 =>
acallW pr 17 [] w1 (apn R) fun t8 w2 =>
aldN 4 t1 w2 fun t10 =>
acallW pr 18 [t10] w2 (apn R) fun t11 w3 =>
aext 0 t11 fun t12 =>
aext 1 t11 fun t13 =>
abx [.i 0, .s ⟨#[]⟩, .i 0, .nil] w3 fun t4 w4 =>
ast 4 t4 t12 w4 fun w5 =>
aldN 4 t1 w5 fun t15 =>
acallW pr 19 [t15] w5 (apn R) fun t16 w6 =>
aext 0 t16 fun t17 =>
aext 1 t16 fun t18 =>
abx [.i 0, .s ⟨#[]⟩, .i 0, .nil] w6 fun t6 w7 =>
ast 4 t6 t17 w7 fun w8 =>
acnd t8 (aldN 4 t4 w8 fun t21 =>
aldN 4 t6 w8 fun t22 =>
acallS pr 20 [t21, t22] w8 (fun _ _ => False) fun t23 w9 =>
acnd t23 (aar .eql t13 t18 fun t28 =>
acnd t28 (aldN 4 t1 w9 fun t31 =>
acallS pr 21 [t31] w9 (fun _ _ => False) fun t32 w10 =>
aldN 4 t1 w10 fun t33 =>
acallS pr 22 [t33] w10 (fun _ _ => False) fun t34 w11 =>
aarB .eql t32 t34 fun t35 =>
R (.ret t35) w11) (R (.ret (.b false)) w9)) (R (.ret (.b false)) w9)) (R (.ret (.b false)) w8)
theorem A3_eq : A3 = fun a0 L R => aex pr ⟨[], [(4, [(0, 0), (1, 0), (2, 0), (3, 0), (4, 0), (5, 0), (6, 0), (7, 0), (8, 0), (9, 0), (10, 0), (11, 0), (12, 0), (13, 0), (14, 0), (15, 0), (16, 0), (17, 0), (18, 2)])]⟩ (bodyOf fn3) (aenv0 [a0]) L (apost pr fn3.results.toList R) := by kernel_rfl
theorem s3 {a0 : D} {L : List Bx} {R : AE → List Bx → Prop} (h : A3 a0 L R) : ASpec pr 3 [a0] L R :=
  aspec_of (A := ⟨[], [(4, [(0, 0), (1, 0), (2, 0), (3, 0), (4, 0), (5, 0), (6, 0), (7, 0), (8, 0), (9, 0), (10, 0), (11, 0), (12, 0), (13, 0), (14, 0), (15, 0), (16, 0), (17, 0), (18, 2)])]⟩) (fn := fn3) 1 mixed Tryd.func3 (by kernel_rfl) (by decide) rfl (by kernel_rfl) (by rw [A3_eq] at h; exact h)
noncomputable abbrev fn4 : Func := Tryd.f4
/- ashlar/ashlarlaw06.NormAgain -/
def A4 (a0 : D) (L : List Bx) (R : AE → List Bx → Prop) : Prop :=
abxv a0 L fun t1 w1 =>
acallW pr 17 [] w1 (apn R) fun t8 w2 =>
aldN 4 t1 w2 fun t10 =>
acallW pr 18 [t10] w2 (apn R) fun t11 w3 =>
aext 0 t11 fun t12 =>
aext 1 t11 fun t13 =>
abx [.i 0, .s ⟨#[]⟩, .i 0, .nil] w3 fun t4 w4 =>
ast 4 t4 t12 w4 fun w5 =>
aar .neq t13 (.i 0) fun t15 =>
acnd t15 (acnd t8 (aldN 4 t1 w5 fun t18 =>
acallW pr 21 [t18] w5 (apn R) fun t19 w6 =>
anotb t19 fun t20 =>
R (.ret t20) w6) (R (.ret (.b false)) w5)) (aldN 4 t4 w5 fun t23 =>
acallW pr 18 [t23] w5 (apn R) fun t24 w7 =>
aext 0 t24 fun t25 =>
aext 1 t24 fun t26 =>
abx [.i 0, .s ⟨#[]⟩, .i 0, .nil] w7 fun t6 w8 =>
ast 4 t6 t25 w8 fun w9 =>
acnd t8 (aldN 4 t4 w9 fun t29 =>
acallW pr 21 [t29] w9 (apn R) fun t30 w10 =>
acnd t30 (aar .eql t26 (.i 0) fun t34 =>
acnd t34 (aldN 4 t4 w10 fun t37 =>
aldN 4 t6 w10 fun t38 =>
acallW pr 20 [t37, t38] w10 (apn R) fun t39 w11 =>
acnd t39 (aldN 4 t1 w11 fun t42 =>
acallW pr 21 [t42] w11 (apn R) fun t43 w12 =>
anotb t43 fun t44 =>
ajn (fun y49 w13 =>
R (.ret (aix y49 0)) w13) fun j49 =>
acnd t44 (j49 [.b true] w12) (aldN 4 t4 w12 fun t46 =>
aldN 4 t1 w12 fun t47 =>
acallW pr 20 [t46, t47] w12 (apn R) fun t48 w14 =>
j49 [t48] w14)) (R (.ret (.b false)) w11)) (R (.ret (.b false)) w10)) (R (.ret (.b false)) w10)) (R (.ret (.b false)) w9))
theorem A4_eq : A4 = fun a0 L R => aex pr ⟨[(3000049, [])], []⟩ (bodyOf fn4) (aenv0 [a0]) L (apost pr fn4.results.toList R) := by kernel_rfl
theorem s4 {a0 : D} {L : List Bx} {R : AE → List Bx → Prop} (h : A4 a0 L R) : ASpec pr 4 [a0] L R :=
  aspec_of (A := ⟨[(3000049, [])], []⟩) (fn := fn4) 1 mixed Tryd.func4 (by kernel_rfl) (by decide) rfl (by kernel_rfl) (by rw [A4_eq] at h; exact h)
noncomputable abbrev fn5 : Func := Tryd.f5
/- ashlar/ashlarlaw06.NormTurned -/
def A5 (a0 : D) (L : List Bx) (R : AE → List Bx → Prop) : Prop :=
abxv a0 L fun t1 w1 =>
acallW pr 17 [] w1 (apn R) fun t15 w2 =>
aldN 4 t1 w2 fun t17 =>
acallW pr 23 [t17] w2 (apn R) fun t18 w3 =>
aext 0 t18 fun t19 =>
aext 1 t18 fun t20 =>
ajn (fun v5 w4 =>
aldN 4 t1 w4 fun t38 =>
abldS 24 4 1 [.i 0, .s ⟨#[]⟩, .i 0, .nil] [(0, 4, t38)] w4 fun t39 w5 =>
abld [.i 0, .s ⟨#[]⟩, .i 0, .nil] [(0, 1, .i 18), (3, 1, t39)] fun t40 =>
abx [.i 0, .s ⟨#[]⟩, .i 0, .nil] w5 fun t6 w6 =>
ast 4 t6 t40 w6 fun w7 =>
aldN 4 t1 w7 fun t42 =>
acallW pr 18 [t42] w7 (apn R) fun t43 w8 =>
aext 0 t43 fun t44 =>
aext 1 t43 fun t45 =>
abx [.i 0, .s ⟨#[]⟩, .i 0, .nil] w8 fun t7 w9 =>
ast 4 t7 t44 w9 fun w10 =>
aldN 4 t6 w10 fun t47 =>
abldS 24 4 1 [.i 0, .s ⟨#[]⟩, .i 0, .nil] [(0, 4, t47)] w10 fun t48 w11 =>
abld [.i 0, .s ⟨#[]⟩, .i 0, .nil] [(0, 1, .i 18), (3, 1, t48)] fun t49 =>
acallW pr 18 [t49] w11 (apn R) fun t50 w12 =>
aext 0 t50 fun t51 =>
aext 1 t50 fun t52 =>
abx [.i 0, .s ⟨#[]⟩, .i 0, .nil] w12 fun t9 w13 =>
ast 4 t9 t51 w13 fun w14 =>
aldN 4 t6 w14 fun t54 =>
acallW pr 18 [t54] w14 (apn R) fun t55 w15 =>
aext 0 t55 fun t56 =>
aext 1 t55 fun t57 =>
abx [.i 0, .s ⟨#[]⟩, .i 0, .nil] w15 fun t11 w16 =>
ast 4 t11 t56 w16 fun w17 =>
ajn (fun v11 w18 =>
aldN 4 t7 w18 fun t70 =>
acallW pr 25 [t70] w18 (apn R) fun t71 w19 =>
aar .geq t71 (.i 2000) fun t72 =>
acnd t72 (R (.ret t15) w19) (aldN 4 t7 w19 fun t75 =>
abldS 24 4 1 [.i 0, .s ⟨#[]⟩, .i 0, .nil] [(0, 4, t75)] w19 fun t76 w20 =>
abld [.i 0, .s ⟨#[]⟩, .i 0, .nil] [(0, 1, .i 18), (3, 1, t76)] fun t77 =>
acallW pr 18 [t77] w20 (apn R) fun t78 w21 =>
aext 0 t78 fun t79 =>
aext 1 t78 fun t80 =>
abx [.i 0, .s ⟨#[]⟩, .i 0, .nil] w21 fun t13 w22 =>
ast 4 t13 t79 w22 fun w23 =>
acnd t15 (aar .eql t52 (.i 0) fun t84 =>
acnd t84 (aldN 4 t7 w23 fun t87 =>
aldN 4 t9 w23 fun t88 =>
acallW pr 20 [t87, t88] w23 (apn R) fun t89 w24 =>
acnd t89 (aar .eql t80 (.i 0) fun t93 =>
acnd t93 (aldN 4 t11 w24 fun t96 =>
aldN 4 t13 w24 fun t97 =>
acallW pr 20 [t96, t97] w24 (apn R) fun t98 w25 =>
R (.ret t98) w25) (R (.ret (.b false)) w24)) (R (.ret (.b false)) w24)) (R (.ret (.b false)) w23)) (R (.ret (.b false)) w23))) fun j11 =>
aar .neq t45 (.i 0) fun t59 =>
acnd t59 (acnd t15 (aar .eql t45 t52 fun t68 =>
R (.ret t68) w17) (R (.ret (.b false)) w17)) (aar .neq t57 (.i 0) fun t62 =>
acnd t62 (acnd t15 (aar .eql t45 t52 fun t68 =>
R (.ret t68) w17) (R (.ret (.b false)) w17)) (j11 [] w17))) fun j5 =>
aar .neq t20 (.i 0) fun t22 =>
acnd t22 (R (.ret t15) w3) (aar .neq t19 (.i 4) fun t25 =>
acnd t25 (R (.ret t15) w3) (aldN 4 t1 w3 fun t28 =>
acallW pr 24 [t28] w3 (apn R) fun t29 w26 =>
aar .gtr t29 (.i 90) fun t30 =>
acnd t30 (R (.ret t15) w26) (aldN 4 t1 w26 fun t33 =>
acallW pr 25 [t33] w26 (apn R) fun t34 w27 =>
aar .geq t34 (.i 1000) fun t35 =>
acnd t35 (R (.ret t15) w27) (j5 [] w27))))
theorem A5_eq : A5 = fun a0 L R => aex pr ⟨[(10, []), (22, [])], []⟩ (bodyOf fn5) (aenv0 [a0]) L (apost pr fn5.results.toList R) := by kernel_rfl
theorem s5 {a0 : D} {L : List Bx} {R : AE → List Bx → Prop} (h : A5 a0 L R) : ASpec pr 5 [a0] L R :=
  aspec_of (A := ⟨[(10, []), (22, [])], []⟩) (fn := fn5) 1 mixed Tryd.func5 (by kernel_rfl) (by decide) rfl (by kernel_rfl) (by rw [A5_eq] at h; exact h)
end Go.Proofs.YtlonmopppgadgaaDoor
