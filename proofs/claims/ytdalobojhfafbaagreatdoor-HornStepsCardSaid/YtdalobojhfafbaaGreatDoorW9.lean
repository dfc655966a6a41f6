/- What must hold ahead of a call of Put, and in the rounds of its loop: printed by a program. -/
import Derived.Test.YtdalobojhfafbaaGreatDoorW2
import Derived.Test.YtdalobojhfafbaaGreatDoorA11
import Derived.KernelRfl
set_option maxRecDepth 100000
set_option linter.unusedVariables false
namespace Go.Proofs.YtdalobojhfafbaaGreatDoor
open Go Go.V
noncomputable abbrev fn107 : Func := Tryz.f107
noncomputable abbrev fn187 : Func := Tryz.f187
def A107 (a0 a1 : D) (L : List Bx) (R : AE → List Bx → Prop) : Prop :=
abxv a0 L fun t2 w1 =>
abx [.i 0, .s ⟨#[]⟩, .i 0, .nil] w1 fun t4 w2 =>
aldN 4 t2 w2 fun t22 =>
acallW pr 69 [t22] w2 (apn R) fun t23 w3 =>
aext 0 t23 fun t24 =>
aext 1 t23 fun t25 =>
aar .neq t25 (.i 0) fun t27 =>
acnd t27 (abld [.i 0, .s ⟨#[]⟩, .i 0, .nil] [] fun t28 =>
ast 4 t4 t28 w3 fun w4 =>
aldN 4 t4 w4 fun r0 =>
R (.ret (.tuple [r0, t25])) w4) (amkM w3 fun t30 w5 =>
abx [.val (.map none)] w5 fun t8 w6 =>
ast 1 t8 t30 w6 fun w7 =>
acallW pr 155 [a1] w7 (apn R) fun t32 w9 =>
arng pr (rngC (bodyOf fn107)) [8, 32] [t8, t32] w9 fun w8 =>
alenL a1 fun t51 =>
alp [.i 0] w8 fun v11 w10 k11 =>
aar .lss (aix v11 0) t51 fun t53 =>
acnd t53 (aidxS 5 a1 (aix v11 0) fun t54 =>
aldN 5 t54 w10 fun t55 =>
abx [.s ⟨#[]⟩, .i 0, .s ⟨#[]⟩, .i 0, .nil] w10 fun t14 w11 =>
ast 5 t14 t55 w11 fun w12 =>
afld 1 t14 fun t57 =>
aldN 4 t57 w12 fun t58 =>
acallW pr 69 [t58] w12 (fun _ _ => False) fun t59 w13 =>
aext 0 t59 fun t60 =>
aext 1 t59 fun t61 =>
aar .neq t61 (.i 0) fun t63 =>
acnd t63 (abld [.i 0, .s ⟨#[]⟩, .i 0, .nil] [] fun t64 =>
ast 4 t4 t64 w13 fun w14 =>
aldN 4 t4 w14 fun r0 =>
R (.ret (.tuple [r0, t61])) w14) (aar .add (aix v11 0) (.i 1) fun t66 =>
k11 [t66] w13)) (ald1 t8 w10 fun t67 =>
abld [.val (.map none), .i 0] [(0, 1, t67)] fun t68 =>
abxv t68 w10 fun t69 w15 =>
aldN 4 t2 w15 fun t71 =>
acallW pr 156 [t69, t71] w15 (fun _ _ => False) fun t72 w16 =>
abx [.i 0, .s ⟨#[]⟩, .i 0, .nil] w16 fun t18 w17 =>
ast 4 t18 t72 w17 fun w18 =>
aldN 4 t18 w18 fun t74 =>
acallW pr 69 [t74] w18 (fun _ _ => False) fun t75 w19 =>
aext 0 t75 fun t76 =>
aext 1 t75 fun t77 =>
aar .neq t77 (.i 0) fun t79 =>
acnd t79 (abld [.i 0, .s ⟨#[]⟩, .i 0, .nil] [] fun t80 =>
ast 4 t4 t80 w19 fun w20 =>
aldN 4 t4 w20 fun r0 =>
R (.ret (.tuple [r0, t77])) w20) (aldN 4 t18 w19 fun t82 =>
ast 4 t4 t82 w19 fun w21 =>
aldN 4 t4 w21 fun r0 =>
R (.ret (.tuple [r0, .i 0])) w21)))
theorem A107_eq : A107 = fun a0 a1 L R => aexM pr ⟨[(23, [52]), (7000000, [8, 32])], []⟩ fn107.results.toList R (bodyOf fn107) (aenv0 [a0, a1]) L := by kernel_rfl
theorem s107 {a0 a1 : D} {L : List Bx} {R : AE → List Bx → Prop} (h : A107 a0 a1 L R) : ASpec pr 107 [a0, a1] L R :=
  aspec_ofM (A := ⟨[(23, [52]), (7000000, [8, 32])], []⟩) (fn := fn107) 2 mixed Tryz.func107 (by kernel_rfl) (by decide) rfl (by kernel_rfl) (by rw [A107_eq] at h; exact h)
def PA (x0 x1 x2 x3 : D) (L : List Bx) (k : List D → List Bx → Prop) : Prop :=
abx [.s ⟨#[]⟩, .i 0, .s ⟨#[]⟩, .i 0, .nil] L fun t10 w1 =>
ast 5 t10 x1 w1 fun w2 =>
k [x2, t10] w2
theorem PA_eq : PA = fun x0 x1 x2 x3 L k => aexI pr (cA (cA (rngC (bodyOf fn107)))) (envV [33, 34, 8, 32] [x0, x1, x2, x3]) L fun e w => k (amapG e [8, 10]) w := by kernel_rfl
def PB (x0 x1 : D) (L : List Bx) (k : List D → List Bx → Prop) : Prop :=
afld 1 x1 fun t36 =>
aldN 4 t36 L fun t37 =>
acallW pr 69 [t37] L (fun _ _ => False) fun t38 w1 =>
aext 0 t38 fun t39 =>
aext 1 t38 fun t40 =>
aar .eql t40 (.i 0) fun t42 =>
acnd t42 (ald1 x0 w1 fun t43 =>
afld 0 x1 fun t44 =>
ald1 t44 w1 fun t45 =>
abld [.s ⟨#[]⟩, .i 0] [(0, 1, t45), (1, 1, t39)] fun t47 =>
afld 1 x1 fun t48 =>
aldN 4 t48 w1 fun t49 =>
aupM pr 212 t43 t47 t49 w1 fun w2 =>
k [] w2) (k [] w1)
theorem PB_eq : PB = fun x0 x1 L k => aexI pr (cB (cA (rngC (bodyOf fn107)))) (envV [8, 10] [x0, x1]) L fun e w => k (amapG e []) w := by kernel_rfl
def I0 (x0 x1 : D) (L : List Bx) (k : List D → List Bx → Prop) : Prop :=
ald1 x1 L fun t4 =>
alenL t4 fun t5 =>
aar .sub t5 (.i 1) fun t6 =>
k [t6] L
theorem I0_eq : I0 = fun x0 x1 L k => aexI pr (cA (bodyOf fn187)) (envV [0, 1] [x0, x1]) L fun e w => k (amapG e [3]) w := by kernel_rfl
def I1 (x0 : D) (L : List Bx) (k : List D → List Bx → Prop) : Prop :=
aar .geq x0 (.i 0) fun t8 =>
k [t8] L
theorem I1_eq : I1 = fun x0 L k => aexI pr (cA (cA (cA (cA (cB (bodyOf fn187)))))) (envV [3] [x0]) L fun e w => k (amapG e [8]) w := by kernel_rfl
def I2 (x0 : D) (L : List Bx) (k : List D → List Bx → Prop) : Prop :=
aar .sub x0 (.i 1) fun t10 =>
k [t10] L
theorem I2_eq : I2 = fun x0 L k => aexI pr (cB (cB (cA (cA (cB (bodyOf fn187)))))) (envV [3] [x0]) L fun e w => k (amapG e [3]) w := by kernel_rfl
def I3 (x0 x1 x2 : D) (L : List Bx) (k : List D → List Bx → Prop) : Prop :=
ald1 x1 L fun t13 =>
aidxS 5 t13 x2 fun t15 =>
aldN 5 t15 L fun t16 =>
k [x0, x2, t16] L
theorem I3_eq : I3 = fun x0 x1 x2 L k => aopsI pr ((opsC (cA (cA (cA (cB (cA (cA (cB (bodyOf fn187))))))))).take 6) (envV [0, 1, 3] [x0, x1, x2]) L fun e w => k (amapG e [11, 12, 16]) w := by kernel_rfl
def I4 (x0 : D) (L : List Bx) (k : List D → List Bx → Prop) : Prop :=
anotb x0 fun t18 =>
k [t18] L
theorem I4_eq : I4 = fun x0 L k => aopsI pr ((opsC (cA (cA (cA (cB (cA (cA (cB (bodyOf fn187))))))))).drop 7) (envV [17] [x0]) L fun e w => k (amapG e [18]) w := by kernel_rfl
end Go.Proofs.YtdalobojhfafbaaGreatDoor
