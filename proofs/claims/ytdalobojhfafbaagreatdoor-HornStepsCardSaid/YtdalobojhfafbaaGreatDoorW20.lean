/- What must hold ahead of a call, function by function: printed by a program. -/
import Derived.Test.YtdalobojhfafbaaGreatDoorW15
import Derived.KernelRfl
set_option maxRecDepth 100000
set_option linter.unusedVariables false
namespace Go.Proofs.YtdalobojhfafbaaGreatDoor
open Go Go.V
noncomputable abbrev fn29 : Func := Tryz.f29
def A29 (L : List Bx) (R : AE → List Bx → Prop) : Prop :=
acallW pr 63 [] L (apn R) fun t13 w1 =>
abx [.nil, .nil, .nil, .nil, .nil, .nil, .i 0, .s ⟨#[]⟩, .i 0, .nil, .nil] w1 fun t1 w2 =>
ast 11 t1 t13 w2 fun w3 =>
aldN 11 t1 w3 fun t15 =>
afld 6 t1 fun t16 =>
aldN 4 t16 w3 fun t17 =>
acallW pr 30 [t15, t17] w3 (apn R) fun t18 w4 =>
aext 0 t18 fun t19 =>
aext 1 t18 fun t20 =>
abx [.i 0, .s ⟨#[]⟩, .i 0, .nil] w4 fun t2 w5 =>
ast 4 t2 t19 w5 fun w6 =>
aldN 11 t1 w6 fun t22 =>
afld 6 t1 fun t23 =>
aldN 4 t23 w6 fun t24 =>
acallW pr 33 [t22, .i 0, t24] w6 (apn R) fun t25 w7 =>
aext 0 t25 fun t26 =>
aext 1 t25 fun t27 =>
abx [.i 0, .s ⟨#[]⟩, .i 0, .nil] w7 fun t4 w8 =>
ast 4 t4 t26 w8 fun w9 =>
aldN 11 t1 w9 fun t29 =>
abldS 3 1 1 [.i 0] [(0, 1, .i 0)] w9 fun t30 w10 =>
acallW pr 64 [t29, t30] w10 (apn R) fun t31 w11 =>
aext 0 t31 fun t32 =>
aext 1 t31 fun t33 =>
aldN 11 t1 w11 fun t35 =>
afld 6 t1 fun t36 =>
aldN 4 t36 w11 fun t37 =>
acallW pr 33 [t35, .i 1, t37] w11 (apn R) fun t38 w12 =>
aext 0 t38 fun t39 =>
aext 1 t38 fun t40 =>
abx [.i 0, .s ⟨#[]⟩, .i 0, .nil] w12 fun t8 w13 =>
ast 4 t8 t39 w13 fun w14 =>
aldN 11 t1 w14 fun t42 =>
afld 6 t1 fun t43 =>
afld 3 t43 fun t44 =>
ald1 t44 w14 fun t45 =>
aidxS 4 t45 (.i 0) fun t46 =>
aldN 4 t46 w14 fun t47 =>
acallS pr 30 [t42, t47] w14 (fun _ _ => False) fun t48 w15 =>
aext 0 t48 fun t49 =>
aext 1 t48 fun t50 =>
abx [.i 0, .s ⟨#[]⟩, .i 0, .nil] w15 fun t10 w16 =>
ast 4 t10 t49 w16 fun w17 =>
abld [.i 0, .s ⟨#[]⟩, .i 0, .nil] [(0, 1, .i 1)] fun t51 =>
abld [.i 0, .s ⟨#[]⟩, .i 0, .nil] [(0, 1, .i 1), (2, 1, .i 3)] fun t52 =>
abldS 27 4 2 [.i 0, .s ⟨#[]⟩, .i 0, .nil, .i 0, .s ⟨#[]⟩, .i 0, .nil] [(0, 4, t51), (4, 4, t52)] w17 fun t53 w18 =>
abld [.i 0, .s ⟨#[]⟩, .i 0, .nil] [(0, 1, .i 22), (3, 1, t53)] fun t54 =>
abx [.i 0, .s ⟨#[]⟩, .i 0, .nil] w18 fun t12 w19 =>
ast 4 t12 t54 w19 fun w20 =>
aar .eql t20 (.i 0) fun t56 =>
acnd t56 (aldN 4 t2 w20 fun t58 =>
aldN 4 t12 w20 fun t59 =>
acallW pr 65 [t58, t59] w20 (apn R) fun t60 w21 =>
acnd t60 (aar .eql t27 (.i 0) fun t64 =>
acnd t64 (afld 0 t4 fun t67 =>
ald1 t67 w21 fun t68 =>
aar .eql t68 (.i 21) fun t69 =>
acnd t69 (afld 3 t4 fun t72 =>
ald1 t72 w21 fun t73 =>
alenL t73 fun t74 =>
aar .eql t74 (.i 2) fun t75 =>
acnd t75 (afld 3 t4 fun t78 =>
ald1 t78 w21 fun t79 =>
aidxS 4 t79 (.i 1) fun t80 =>
afld 0 t80 fun t81 =>
ald1 t81 w21 fun t82 =>
aar .eql t82 (.i 22) fun t83 =>
acnd t83 (aar .eql t33 (.i 0) fun t87 =>
acnd t87 (alenL t32 fun t91 =>
aar .eql t91 (.i 3) fun t92 =>
acnd t92 (aidxS 6 t32 (.i 2) fun t96 =>
afld 1 t96 fun t97 =>
ald1 t97 w21 fun t98 =>
aar .eql t98 (.i (-1)) fun t99 =>
acnd t99 (aar .eql t40 (.i 1) fun t103 =>
acnd t103 (aar .eql t50 (.i 3) fun t107 =>
R (.ret t107) w21) (R (.ret (.b false)) w21)) (R (.ret (.b false)) w21)) (R (.ret (.b false)) w21)) (R (.ret (.b false)) w21)) (R (.ret (.b false)) w21)) (R (.ret (.b false)) w21)) (R (.ret (.b false)) w21)) (R (.ret (.b false)) w21)) (R (.ret (.b false)) w21)) (R (.ret (.b false)) w20)
theorem A29_eq : A29 = fun  L R => aex pr ⟨[], [(6, [(0, 0), (1, 0), (2, 0), (3, 0), (4, 0), (5, 0), (6, 0), (7, 0), (8, 0), (9, 0), (10, 3), (11, 2), (12, 2)])]⟩ (bodyOf fn29) (aenv0 []) L (apost pr fn29.results.toList R) := by kernel_rfl
theorem s29 {L : List Bx} {R : AE → List Bx → Prop} (h : A29  L R) : ASpec pr 29 [] L R :=
  aspec_of (A := ⟨[], [(6, [(0, 0), (1, 0), (2, 0), (3, 0), (4, 0), (5, 0), (6, 0), (7, 0), (8, 0), (9, 0), (10, 3), (11, 2), (12, 2)])]⟩) (fn := fn29) 0 mixed Tryz.func29 (by kernel_rfl) (by decide) rfl (by kernel_rfl) (by rw [A29_eq] at h; exact h)
end Go.Proofs.YtdalobojhfafbaaGreatDoor
