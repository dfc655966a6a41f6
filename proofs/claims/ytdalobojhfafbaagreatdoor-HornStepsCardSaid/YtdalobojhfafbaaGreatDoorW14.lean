/- What must hold ahead of a call, function by function: printed by a program. -/
import Derived.Test.YtdalobojhfafbaaGreatDoorW10
import Derived.KernelRfl
set_option maxRecDepth 100000
set_option linter.unusedVariables false
namespace Go.Proofs.YtdalobojhfafbaaGreatDoor
open Go Go.V
noncomputable abbrev fn96 : Func := Tryz.f96
def A96 (a0 a1 : D) (L : List Bx) (R : AE → List Bx → Prop) : Prop :=
anotb a0 fun t5 =>
acnd t5 (apn R (.ifc 107 a1) L) (R (.ret (.tuple [])) L)
theorem A96_eq : A96 = fun a0 a1 L R => aex pr ⟨[], []⟩ (bodyOf fn96) (aenv0 [a0, a1]) L (apost pr fn96.results.toList R) := by kernel_rfl
theorem s96 {a0 a1 : D} {L : List Bx} {R : AE → List Bx → Prop} (h : A96 a0 a1 L R) : ASpec pr 96 [a0, a1] L R :=
  aspec_of (A := ⟨[], []⟩) (fn := fn96) 2 mixed Tryz.func96 (by kernel_rfl) (by decide) rfl (by kernel_rfl) (by rw [A96_eq] at h; exact h)
noncomputable abbrev fn56 : Func := Tryz.f56
def A56 (a0 : D) (L : List Bx) (R : AE → List Bx → Prop) : Prop :=
anilc a0 fun t7 =>
afld 0 t7 fun t8 =>
afld 0 t8 fun t9 =>
ald1 t9 L fun t10 =>
anilc a0 fun t12 =>
afld 0 t12 fun t13 =>
afld 1 t13 fun t14 =>
ald1 t14 L fun t15 =>
anilc a0 fun t17 =>
afld 0 t17 fun t18 =>
afld 2 t18 fun t19 =>
ald1 t19 L fun t20 =>
anilc a0 fun t22 =>
afld 0 t22 fun t23 =>
afld 3 t23 fun t24 =>
ald1 t24 L fun t25 =>
abldF 1 4 [.nil, .nil, .nil, .nil] [(0, 1, t10), (1, 1, t15), (2, 1, t20), (3, 1, t25)] fun t26 =>
alenL t26 fun t27 =>
alp [.i 0] L fun v1 w1 k1 =>
aar .lss (aix v1 0) t27 fun t29 =>
acnd t29 (aidxS 1 t26 (aix v1 0) fun t30 =>
ald1 t30 w1 fun t31 =>
alenL t31 fun t33 =>
aar .leq t33 (.i 15) fun t34 =>
acallW pr 96 [t34, .i 7] w1 (apn R) fun t35 w2 =>
aar .add (aix v1 0) (.i 1) fun t36 =>
k1 [t36] w2) (anilc a0 fun t38 =>
afld 0 t38 fun t39 =>
afld 5 t39 fun t40 =>
ald1 t40 w1 fun t41 =>
alenL t41 fun t42 =>
anilc a0 fun t44 =>
afld 0 t44 fun t45 =>
afld 10 t45 fun t46 =>
ald1 t46 w1 fun t47 =>
alenL t47 fun t48 =>
anilc a0 fun t50 =>
afld 0 t50 fun t51 =>
afld 4 t51 fun t52 =>
ald1 t52 w1 fun t53 =>
alenL t53 fun t54 =>
amax3 t42 t48 t54 fun t55 =>
aar .leq t55 (.i 32) fun t56 =>
acallS pr 96 [t56, .i 7] w1 (apn R) fun t57 w3 =>
anilc a0 fun t59 =>
afld 0 t59 fun t60 =>
afld 5 t60 fun t61 =>
ald1 t61 w3 fun t62 =>
alenL t62 fun t63 =>
alp [.i 0] w3 fun v7 w4 k7 =>
aar .lss (aix v7 0) t63 fun t65 =>
acnd t65 (aidxS 9 t62 (aix v7 0) fun t66 =>
aldN 9 t66 w4 fun t67 =>
abx [.b false, .s ⟨#[]⟩, .s ⟨#[]⟩, .i 0, .s ⟨#[]⟩, .i 0, .nil, .nil, .nil] w4 fun t5 w5 =>
ast 9 t5 t67 w5 fun w6 =>
afld 7 t5 fun t68 =>
ald1 t68 w6 fun t69 =>
alenL t69 fun t70 =>
afld 8 t5 fun t71 =>
ald1 t71 w6 fun t72 =>
alenL t72 fun t73 =>
amax2 t70 t73 fun t74 =>
aar .leq t74 (.i 32) fun t75 =>
acallW pr 96 [t75, .i 7] w6 (apn R) fun t76 w7 =>
aar .add (aix v7 0) (.i 1) fun t77 =>
k7 [t77] w7) (R (.ret (.tuple [])) w4))
theorem A56_eq : A56 = fun a0 L R => aex pr ⟨[(3, [28]), (15, [64])], [(0, [(0, 0), (1, 0), (2, 0), (3, 0), (4, 0), (5, 0), (6, 0), (7, 0), (8, 0), (9, 0), (10, 0), (11, 0), (12, 0), (13, 0), (14, 0), (15, 0), (16, 0), (17, 0), (18, 0), (19, 0), (20, 0), (21, 0), (22, 0)]), (5, [(0, 0), (1, 0), (2, 0), (3, 0), (4, 0), (5, 0), (6, 0), (7, 0), (8, 0), (9, 0), (10, 0), (11, 0), (12, 0), (13, 0), (14, 0), (15, 0), (16, 0), (17, 0), (18, 0), (19, 0), (20, 1)])]⟩ (bodyOf fn56) (aenv0 [a0]) L (apost pr fn56.results.toList R) := by kernel_rfl
theorem s56 {a0 : D} {L : List Bx} {R : AE → List Bx → Prop} (h : A56 a0 L R) : ASpec pr 56 [a0] L R :=
  aspec_of (A := ⟨[(3, [28]), (15, [64])], [(0, [(0, 0), (1, 0), (2, 0), (3, 0), (4, 0), (5, 0), (6, 0), (7, 0), (8, 0), (9, 0), (10, 0), (11, 0), (12, 0), (13, 0), (14, 0), (15, 0), (16, 0), (17, 0), (18, 0), (19, 0), (20, 0), (21, 0), (22, 0)]), (5, [(0, 0), (1, 0), (2, 0), (3, 0), (4, 0), (5, 0), (6, 0), (7, 0), (8, 0), (9, 0), (10, 0), (11, 0), (12, 0), (13, 0), (14, 0), (15, 0), (16, 0), (17, 0), (18, 0), (19, 0), (20, 1)])]⟩) (fn := fn56) 1 mixed Tryz.func56 (by kernel_rfl) (by decide) rfl (by kernel_rfl) (by rw [A56_eq] at h; exact h)
noncomputable abbrev fn57 : Func := Tryz.f57
def A57 (a0 : D) (L : List Bx) (R : AE → List Bx → Prop) : Prop :=
anilc a0 fun t4 =>
afld 0 t4 fun t5 =>
afld 0 t5 fun t6 =>
ald1 t6 L fun t7 =>
acallW pr 97 [a0, t7, .i 2] L (apn R) fun t8 w1 =>
anilc a0 fun t11 =>
afld 0 t11 fun t12 =>
afld 1 t12 fun t13 =>
ald1 t13 w1 fun t14 =>
acallW pr 97 [a0, t14, .i 15] w1 (apn R) fun t15 w2 =>
anilc a0 fun t18 =>
afld 0 t18 fun t19 =>
afld 2 t19 fun t20 =>
ald1 t20 w2 fun t21 =>
acallW pr 97 [a0, t21, .i 7] w2 (apn R) fun t22 w3 =>
anilc a0 fun t25 =>
afld 0 t25 fun t26 =>
afld 3 t26 fun t27 =>
ald1 t27 w3 fun t28 =>
acallW pr 97 [a0, t28, .i 7] w3 (apn R) fun t29 w4 =>
R (.ret (.tuple [])) w4
theorem A57_eq : A57 = fun a0 L R => aex pr ⟨[], []⟩ (bodyOf fn57) (aenv0 [a0]) L (apost pr fn57.results.toList R) := by kernel_rfl
theorem s57 {a0 : D} {L : List Bx} {R : AE → List Bx → Prop} (h : A57 a0 L R) : ASpec pr 57 [a0] L R :=
  aspec_of (A := ⟨[], []⟩) (fn := fn57) 1 mixed Tryz.func57 (by kernel_rfl) (by decide) rfl (by kernel_rfl) (by rw [A57_eq] at h; exact h)
noncomputable abbrev fn58 : Func := Tryz.f58
def A58 (a0 : D) (L : List Bx) (R : AE → List Bx → Prop) : Prop :=
anilc a0 fun t5 =>
afld 0 t5 fun t6 =>
afld 4 t6 fun t7 =>
ald1 t7 L fun t8 =>
alenL t8 fun t9 =>
alp [.i 0] L fun v1 w1 k1 =>
aar .lss (aix v1 0) t9 fun t11 =>
acnd t11 (aidxS 5 t8 (aix v1 0) fun t13 =>
aldN 5 t13 w1 fun t14 =>
abx [.s ⟨#[]⟩, .i 0, .s ⟨#[]⟩, .i 0, .nil] w1 fun t3 w2 =>
ast 5 t3 t14 w2 fun w3 =>
afld 1 t3 fun t15 =>
aldN 4 t15 w3 fun t16 =>
anilc a0 fun t19 =>
afld 0 t19 fun t20 =>
afld 4 t20 fun t21 =>
ald1 t21 w3 fun t22 =>
acallS pr 99 [a0, t22, aix v1 0] w3 (apn R) fun t24 w4 =>
acallS pr 98 [t16, t24] w4 (apn R) fun t25 w5 =>
afld 1 t3 fun t26 =>
aldN 4 t26 w5 fun t27 =>
acallW pr 100 [t27] w5 (apn R) fun t28 w6 =>
alenL t28 fun t29 =>
aar .eql t29 (.i 0) fun t30 =>
acallW pr 96 [t30, .i 4] w6 (apn R) fun t31 w7 =>
aar .add (aix v1 0) (.i 1) fun t32 =>
k1 [t32] w7) (R (.ret (.tuple [])) w1)
theorem A58_eq : A58 = fun a0 L R => aex pr ⟨[(3, [10])], [(3, [(0, 0), (1, 0), (2, 0), (3, 0), (4, 0), (5, 0), (6, 0), (7, 0), (8, 0), (9, 1), (10, 1)])]⟩ (bodyOf fn58) (aenv0 [a0]) L (apost pr fn58.results.toList R) := by kernel_rfl
theorem s58 {a0 : D} {L : List Bx} {R : AE → List Bx → Prop} (h : A58 a0 L R) : ASpec pr 58 [a0] L R :=
  aspec_of (A := ⟨[(3, [10])], [(3, [(0, 0), (1, 0), (2, 0), (3, 0), (4, 0), (5, 0), (6, 0), (7, 0), (8, 0), (9, 1), (10, 1)])]⟩) (fn := fn58) 1 mixed Tryz.func58 (by kernel_rfl) (by decide) rfl (by kernel_rfl) (by rw [A58_eq] at h; exact h)
noncomputable abbrev fn59 : Func := Tryz.f59
def A59 (a0 : D) (L : List Bx) (R : AE → List Bx → Prop) : Prop :=
anilc a0 fun t5 =>
afld 0 t5 fun t6 =>
afld 5 t6 fun t7 =>
ald1 t7 L fun t8 =>
alenL t8 fun t9 =>
alp [.i 0] L fun v1 w1 k1 =>
aar .lss (aix v1 0) t9 fun t11 =>
acnd t11 (aidxS 9 t8 (aix v1 0) fun t12 =>
aldN 9 t12 w1 fun t13 =>
abx [.b false, .s ⟨#[]⟩, .s ⟨#[]⟩, .i 0, .s ⟨#[]⟩, .i 0, .nil, .nil, .nil] w1 fun t3 w2 =>
ast 9 t3 t13 w2 fun w3 =>
aldN 9 t3 w3 fun t15 =>
acallW pr 101 [a0, t15] w3 (apn R) fun t16 w4 =>
aar .add (aix v1 0) (.i 1) fun t17 =>
k1 [t17] w4) (R (.ret (.tuple [])) w1)
theorem A59_eq : A59 = fun a0 L R => aex pr ⟨[(3, [10])], []⟩ (bodyOf fn59) (aenv0 [a0]) L (apost pr fn59.results.toList R) := by kernel_rfl
theorem s59 {a0 : D} {L : List Bx} {R : AE → List Bx → Prop} (h : A59 a0 L R) : ASpec pr 59 [a0] L R :=
  aspec_of (A := ⟨[(3, [10])], []⟩) (fn := fn59) 1 mixed Tryz.func59 (by kernel_rfl) (by decide) rfl (by kernel_rfl) (by rw [A59_eq] at h; exact h)
noncomputable abbrev fn60 : Func := Tryz.f60
def A60 (a0 : D) (L : List Bx) (R : AE → List Bx → Prop) : Prop :=
anilc a0 fun t5 =>
afld 0 t5 fun t6 =>
afld 6 t6 fun t7 =>
aldN 4 t7 L fun t8 =>
anilc a0 fun t11 =>
afld 0 t11 fun t12 =>
afld 10 t12 fun t13 =>
∃ x, x ∈ L ∧ x.k = .box ∧
ald1 t13 ([x]) fun t14 =>
abldS 27 4 1 [.i 0, .s ⟨#[]⟩, .i 0, .nil] [(0, 4, t8)] L fun t9 w1 =>
(∀ x ∈ L, x.k = .box → x ∈ w1) ∧
aapp 27 4 56 t9 t14 w1 fun t15 w2 =>
alenL t15 fun t16 =>
alp [.i 0] w2 fun v1 w3 k1 =>
aar .lss (aix v1 0) t16 fun t18 =>
acnd t18 (aidxS 4 t15 (aix v1 0) fun t19 =>
aldN 4 t19 w3 fun t20 =>
abx [.i 0, .s ⟨#[]⟩, .i 0, .nil] w3 fun t3 w4 =>
ast 4 t3 t20 w4 fun w5 =>
aldN 4 t3 w5 fun t22 =>
acallW pr 102 [a0, t22, .i 4, .s ⟨#[]⟩] w5 (apn R) fun t23 w6 =>
aar .add (aix v1 0) (.i 1) fun t24 =>
k1 [t24] w6) (R (.ret (.tuple [])) w3)
theorem A60_eq : A60 = fun a0 L R => aex pr ⟨[(3, [17])], [(0, [(0, 0), (1, 0), (2, 0), (3, 0), (4, 0), (6, 0), (7, 0), (8, 0), (9, 0), (10, 5), (13, 0), (5, 4), (11, 2), (12, 0)])]⟩ (bodyOf fn60) (aenv0 [a0]) L (apost pr fn60.results.toList R) := by kernel_rfl
theorem s60 {a0 : D} {L : List Bx} {R : AE → List Bx → Prop} (h : A60 a0 L R) : ASpec pr 60 [a0] L R :=
  aspec_of (A := ⟨[(3, [17])], [(0, [(0, 0), (1, 0), (2, 0), (3, 0), (4, 0), (6, 0), (7, 0), (8, 0), (9, 0), (10, 5), (13, 0), (5, 4), (11, 2), (12, 0)])]⟩) (fn := fn60) 1 mixed Tryz.func60 (by kernel_rfl) (by decide) rfl (by kernel_rfl) (by rw [A60_eq] at h; exact h)
noncomputable abbrev fn97 : Func := Tryz.f97
def A97 (a0 a1 a2 : D) (L : List Bx) (R : AE → List Bx → Prop) : Prop :=
alenL a1 fun t9 =>
alp [.i 0] L fun v1 w1 k1 =>
aar .lss (aix v1 0) t9 fun t11 =>
acnd t11 (aidxS 1 a1 (aix v1 0) fun t12 =>
ald1 t12 w1 fun t13 =>
acallW pr 51 [t13] w1 (apn R) fun t15 w2 =>
ajn (fun y24 w3 =>
acallW pr 96 [aix y24 0, .i 4] w3 (apn R) fun t25 w4 =>
anilc a0 fun t27 =>
afld 11 t27 fun t28 =>
ald1 t28 w4 fun t29 =>
aupM pr 9 t29 t13 a2 w4 fun w5 =>
aar .add (aix v1 0) (.i 1) fun t32 =>
k1 [t32] w5) fun j24 =>
acnd t15 (anilc a0 fun t18 =>
afld 11 t18 fun t19 =>
ald1 t19 w2 fun t20 =>
alkM pr 9 false (.i 0) t20 t13 w2 fun t22 =>
aar .eql t22 (.i 0) fun t23 =>
j24 [t23] w2) (j24 [.b false] w2)) (R (.ret (.tuple [])) w1)
theorem A97_eq : A97 = fun a0 a1 a2 L R => aex pr ⟨[(3, [10]), (3000024, [])], []⟩ (bodyOf fn97) (aenv0 [a0, a1, a2]) L (apost pr fn97.results.toList R) := by kernel_rfl
theorem s97 {a0 a1 a2 : D} {L : List Bx} {R : AE → List Bx → Prop} (h : A97 a0 a1 a2 L R) : ASpec pr 97 [a0, a1, a2] L R :=
  aspec_of (A := ⟨[(3, [10]), (3000024, [])], []⟩) (fn := fn97) 3 mixed Tryz.func97 (by kernel_rfl) (by decide) rfl (by kernel_rfl) (by rw [A97_eq] at h; exact h)
noncomputable abbrev fn98 : Func := Tryz.f98
def A98 (a0 a1 : D) (L : List Bx) (R : AE → List Bx → Prop) : Prop :=
abxv a0 L fun t2 w1 =>
aldN 4 t2 w1 fun t7 =>
acallW pr 69 [t7] w1 (apn R) fun t8 w2 =>
aext 0 t8 fun t9 =>
aext 1 t8 fun t10 =>
aar .eql t10 (.i 0) fun t12 =>
acallW pr 96 [t12, t10] w2 (apn R) fun t14 w3 =>
aar .eql t9 a1 fun t17 =>
acallW pr 96 [t17, .i 3] w3 (apn R) fun t18 w4 =>
R (.ret (.tuple [])) w4
theorem A98_eq : A98 = fun a0 a1 L R => aex pr ⟨[], []⟩ (bodyOf fn98) (aenv0 [a0, a1]) L (apost pr fn98.results.toList R) := by kernel_rfl
theorem s98 {a0 a1 : D} {L : List Bx} {R : AE → List Bx → Prop} (h : A98 a0 a1 L R) : ASpec pr 98 [a0, a1] L R :=
  aspec_of (A := ⟨[], []⟩) (fn := fn98) 2 mixed Tryz.func98 (by kernel_rfl) (by decide) rfl (by kernel_rfl) (by rw [A98_eq] at h; exact h)
noncomputable abbrev fn99 : Func := Tryz.f99
def A99 (a0 a1 a2 : D) (L : List Bx) (R : AE → List Bx → Prop) : Prop :=
aidxS 5 a1 a2 fun t13 =>
afld 0 t13 fun t14 =>
ald1 t14 L fun t15 =>
abx [.s ⟨#[]⟩] L fun t7 w1 =>
ast 1 t7 t15 w1 fun w2 =>
aslcL 5 a1 none (some a2) fun t18 =>
acallW pr 143 [t18, .fn 144 [] [t7]] w2 (apn R) fun t20 w3 =>
ajn (fun v4 w4 =>
anilc a0 fun t45 =>
afld 11 t45 fun t46 =>
ald1 t46 w4 fun t47 =>
ald1 t7 w4 fun t48 =>
alkM pr 9 false (.i 0) t47 t48 w4 fun t49 =>
ald1 t7 w4 fun t50 =>
abld [.i 0, .s ⟨#[]⟩, .i 0, .nil] [(0, 1, t49), (1, 1, t50)] fun t51 =>
acallS pr 69 [t51] w4 (fun _ _ => False) fun t52 w5 =>
aext 0 t52 fun t53 =>
aext 1 t52 fun t54 =>
R (.ret t53) w5) fun j4 =>
anilc a0 fun t22 =>
afld 11 t22 fun t23 =>
ald1 t23 w3 fun t24 =>
ald1 t7 w3 fun t25 =>
alkM pr 9 false (.i 0) t24 t25 w3 fun t26 =>
aar .neq t26 (.i 0) fun t27 =>
acnd t27 (anilc a0 fun t30 =>
afld 0 t30 fun t31 =>
afld 3 t31 fun t32 =>
ald1 t32 w3 fun t33 =>
ald1 t7 w3 fun t34 =>
acallS pr 145 [t33, t34] w3 (fun _ _ => False) fun t35 w6 =>
anotb t35 fun t36 =>
acnd t36 (anotb t20 fun t40 =>
acallS pr 96 [t40, .i 4] w6 (apn R) fun t42 w7 =>
j4 [] w7) (acallS pr 96 [.b false, .i 4] w6 (apn R) fun t42 w8 =>
j4 [] w8)) (acallS pr 96 [.b false, .i 4] w3 (apn R) fun t42 w9 =>
j4 [] w9)
theorem A99_eq : A99 = fun a0 a1 a2 L R => aex pr ⟨[(8, [])], [(3, [(0, 0), (1, 0), (2, 0), (3, 0), (4, 0), (5, 0), (6, 0), (7, 0), (8, 0), (9, 0), (10, 0), (11, 0), (12, 0), (13, 0), (14, 0), (15, 0), (16, 0), (17, 0), (18, 0), (19, 0), (20, 0), (21, 1)]), (4, [(0, 0), (1, 0), (2, 0), (3, 0), (4, 0), (5, 0), (6, 0), (7, 0), (8, 0), (9, 0), (10, 0), (11, 0), (12, 2), (13, 2)])]⟩ (bodyOf fn99) (aenv0 [a0, a1, a2]) L (apost pr fn99.results.toList R) := by kernel_rfl
theorem s99 {a0 a1 a2 : D} {L : List Bx} {R : AE → List Bx → Prop} (h : A99 a0 a1 a2 L R) : ASpec pr 99 [a0, a1, a2] L R :=
  aspec_of (A := ⟨[(8, [])], [(3, [(0, 0), (1, 0), (2, 0), (3, 0), (4, 0), (5, 0), (6, 0), (7, 0), (8, 0), (9, 0), (10, 0), (11, 0), (12, 0), (13, 0), (14, 0), (15, 0), (16, 0), (17, 0), (18, 0), (19, 0), (20, 0), (21, 1)]), (4, [(0, 0), (1, 0), (2, 0), (3, 0), (4, 0), (5, 0), (6, 0), (7, 0), (8, 0), (9, 0), (10, 0), (11, 0), (12, 2), (13, 2)])]⟩) (fn := fn99) 3 mixed Tryz.func99 (by kernel_rfl) (by decide) rfl (by kernel_rfl) (by rw [A99_eq] at h; exact h)
noncomputable abbrev fn144 : Func := Tryz.f144
def A144 (a0 a1 : D) (L : List Bx) (R : AE → List Bx → Prop) : Prop :=
abxv a0 L fun t2 w1 =>
afld 0 t2 fun t4 =>
ald1 t4 w1 fun t5 =>
ald1 a1 w1 fun t6 =>
aar .eql t5 t6 fun t7 =>
R (.ret t7) w1
theorem A144_eq : A144 = fun a0 a1 L R => aex pr ⟨[], []⟩ (bodyOf fn144) (aenv0 [a0, a1]) L (apost pr fn144.results.toList R) := by kernel_rfl
theorem s144 {a0 a1 : D} {L : List Bx} {R : AE → List Bx → Prop} (h : A144 a0 a1 L R) : ASpec pr 144 [a0, a1] L R :=
  aspec_of (A := ⟨[], []⟩) (fn := fn144) 2 mixed Tryz.func144 (by kernel_rfl) (by decide) rfl (by kernel_rfl) (by rw [A144_eq] at h; exact h)
noncomputable abbrev fn101 : Func := Tryz.f101
def A101 (a0 a1 : D) (L : List Bx) (R : AE → List Bx → Prop) : Prop :=
abxv a1 L fun t3 w1 =>
ajn (fun v2 w2 =>
ajn (fun v3 w3 =>
afld 3 t3 fun t41 =>
aldN 4 t41 w3 fun t42 =>
afld 2 t3 fun t43 =>
ald1 t43 w3 fun t44 =>
acallW pr 102 [a0, t42, .i 4, t44] w3 (apn R) fun t45 w4 =>
afld 7 t3 fun t46 =>
ald1 t46 w4 fun t47 =>
alenL t47 fun t48 =>
alp [.i 0] w4 fun v5 w5 k5 =>
aar .lss (aix v5 0) t48 fun t50 =>
acnd t50 (aidxS 5 t47 (aix v5 0) fun t52 =>
aldN 5 t52 w5 fun t53 =>
abx [.s ⟨#[]⟩, .i 0, .s ⟨#[]⟩, .i 0, .nil] w5 fun t5 w6 =>
ast 5 t5 t53 w6 fun w7 =>
afld 1 t5 fun t55 =>
aldN 4 t55 w7 fun t56 =>
afld 7 t3 fun t58 =>
ald1 t58 w7 fun t59 =>
afld 2 t3 fun t62 =>
ald1 t62 w7 fun t63 =>
acallS pr 99 [a0, t59, aix v5 0] w7 (apn R) fun t61 w8 =>
acallS pr 102 [a0, t56, t61, t63] w8 (apn R) fun t64 w9 =>
aar .add (aix v5 0) (.i 1) fun t65 =>
k5 [t65] w9) (afld 8 t3 fun t66 =>
ald1 t66 w5 fun t67 =>
alenL t67 fun t68 =>
alp [.i 0] w5 fun v10 w10 k10 =>
aar .lss (aix v10 0) t68 fun t70 =>
acnd t70 (aidxS 1 t67 (aix v10 0) fun t71 =>
ald1 t71 w10 fun t72 =>
anilc a0 fun t74 =>
afld 0 t74 fun t75 =>
afld 3 t75 fun t76 =>
ald1 t76 w10 fun t77 =>
acallW pr 145 [t77, t72] w10 (apn R) fun t79 w11 =>
acallW pr 96 [t79, .i 4] w11 (apn R) fun t80 w12 =>
aar .add (aix v10 0) (.i 1) fun t81 =>
k10 [t81] w12) (R (.ret (.tuple [])) w10))) fun j3 =>
afld 2 t3 fun t26 =>
ald1 t26 w2 fun t27 =>
acallS pr 51 [t27] w2 (fun _ _ => False) fun t28 w13 =>
acnd t28 (anilc a0 fun t31 =>
afld 11 t31 fun t32 =>
ald1 t32 w13 fun t33 =>
afld 2 t3 fun t34 =>
ald1 t34 w13 fun t35 =>
alkM pr 9 false (.i 0) t33 t35 w13 fun t36 =>
aar .eql t36 (.i 0) fun t37 =>
acallS pr 96 [t37, .i 4] w13 (apn R) fun t39 w14 =>
j3 [] w14) (acallS pr 96 [.b false, .i 4] w13 (apn R) fun t39 w15 =>
j3 [] w15)) fun j2 =>
afld 1 t3 fun t8 =>
ald1 t8 w1 fun t9 =>
acallS pr 51 [t9] w1 (fun _ _ => False) fun t10 w16 =>
acnd t10 (afld 0 t3 fun t12 =>
ald1 t12 w16 fun t13 =>
acnd t13 (acallS pr 96 [.b true, .i 4] w16 (apn R) fun t25 w17 =>
j2 [] w17) (anilc a0 fun t16 =>
afld 0 t16 fun t17 =>
afld 3 t17 fun t18 =>
ald1 t18 w16 fun t19 =>
afld 1 t3 fun t20 =>
ald1 t20 w16 fun t21 =>
acallS pr 145 [t19, t21] w16 (fun _ _ => False) fun t22 w18 =>
acallS pr 96 [t22, .i 4] w18 (apn R) fun t25 w19 =>
j2 [] w19)) (acallS pr 96 [.b false, .i 4] w16 (apn R) fun t25 w20 =>
j2 [] w20)
theorem A101_eq : A101 = fun a0 a1 L R => aex pr ⟨[(4, []), (6, []), (11, [49]), (21, [69])], [(1, [(0, 0), (1, 0), (2, 0), (3, 0), (4, 0), (5, 0), (6, 0), (7, 0), (8, 0), (9, 0), (10, 0), (11, 0), (12, 0), (13, 0), (14, 0), (15, 0), (16, 0), (17, 1)]), (2, [(0, 0), (1, 0), (2, 0), (3, 0), (4, 0), (5, 0), (6, 0), (7, 0), (8, 0), (9, 0), (10, 0), (11, 0), (12, 0), (13, 1)]), (7, [(0, 0), (1, 0), (2, 0), (3, 0), (4, 0), (5, 0), (6, 0), (8, 0), (9, 0), (7, 1), (10, 1)])]⟩ (bodyOf fn101) (aenv0 [a0, a1]) L (apost pr fn101.results.toList R) := by kernel_rfl
theorem s101 {a0 a1 : D} {L : List Bx} {R : AE → List Bx → Prop} (h : A101 a0 a1 L R) : ASpec pr 101 [a0, a1] L R :=
  aspec_of (A := ⟨[(4, []), (6, []), (11, [49]), (21, [69])], [(1, [(0, 0), (1, 0), (2, 0), (3, 0), (4, 0), (5, 0), (6, 0), (7, 0), (8, 0), (9, 0), (10, 0), (11, 0), (12, 0), (13, 0), (14, 0), (15, 0), (16, 0), (17, 1)]), (2, [(0, 0), (1, 0), (2, 0), (3, 0), (4, 0), (5, 0), (6, 0), (7, 0), (8, 0), (9, 0), (10, 0), (11, 0), (12, 0), (13, 1)]), (7, [(0, 0), (1, 0), (2, 0), (3, 0), (4, 0), (5, 0), (6, 0), (8, 0), (9, 0), (7, 1), (10, 1)])]⟩) (fn := fn101) 2 mixed Tryz.func101 (by kernel_rfl) (by decide) rfl (by kernel_rfl) (by rw [A101_eq] at h; exact h)
noncomputable abbrev fn102 : Func := Tryz.f102
def A102 (a0 a1 a2 a3 : D) (L : List Bx) (R : AE → List Bx → Prop) : Prop :=
abxv a1 L fun t5 w1 =>
aldN 4 t5 w1 fun t10 =>
acallW pr 98 [t10, a2] w1 (apn R) fun t12 w2 =>
aldN 4 t5 w2 fun t13 =>
acallW pr 100 [t13] w2 (apn R) fun t14 w3 =>
alenL t14 fun t15 =>
alp [.i 0] w3 fun v3 w4 k3 =>
aar .lss (aix v3 0) t15 fun t17 =>
acnd t17 (aidxS 5 t14 (aix v3 0) fun t18 =>
aldN 5 t18 w4 fun t19 =>
abx [.s ⟨#[]⟩, .i 0, .s ⟨#[]⟩, .i 0, .nil] w4 fun t9 w5 =>
ast 5 t9 t19 w5 fun w6 =>
afld 1 t9 fun t20 =>
afld 0 t20 fun t21 =>
ald1 t21 w6 fun t22 =>
aar .eql t22 (.i 14) fun t23 =>
acnd t23 (aar .neq a3 (.s ⟨#[]⟩) fun t26 =>
acnd t26 (afld 0 t9 fun t29 =>
ald1 t29 w6 fun t30 =>
aar .eql t30 a3 fun t32 =>
acnd t32 (acallS pr 96 [.b true, .i 4] w6 (apn R) fun t47 w7 =>
aar .add (aix v3 0) (.i 1) fun t48 =>
k3 [t48] w7) (afld 1 t9 fun t35 =>
afld 0 t35 fun t36 =>
ald1 t36 w6 fun t37 =>
anilc a0 fun t39 =>
afld 11 t39 fun t40 =>
ald1 t40 w6 fun t41 =>
afld 0 t9 fun t42 =>
ald1 t42 w6 fun t43 =>
alkM pr 9 false (.i 0) t41 t43 w6 fun t44 =>
aar .eql t37 t44 fun t45 =>
acallS pr 96 [t45, .i 4] w6 (apn R) fun t47 w8 =>
aar .add (aix v3 0) (.i 1) fun t48 =>
k3 [t48] w8)) (afld 1 t9 fun t35 =>
afld 0 t35 fun t36 =>
ald1 t36 w6 fun t37 =>
anilc a0 fun t39 =>
afld 11 t39 fun t40 =>
ald1 t40 w6 fun t41 =>
afld 0 t9 fun t42 =>
ald1 t42 w6 fun t43 =>
alkM pr 9 false (.i 0) t41 t43 w6 fun t44 =>
aar .eql t37 t44 fun t45 =>
acallS pr 96 [t45, .i 4] w6 (apn R) fun t47 w9 =>
aar .add (aix v3 0) (.i 1) fun t48 =>
k3 [t48] w9)) (afld 1 t9 fun t35 =>
afld 0 t35 fun t36 =>
ald1 t36 w6 fun t37 =>
anilc a0 fun t39 =>
afld 11 t39 fun t40 =>
ald1 t40 w6 fun t41 =>
afld 0 t9 fun t42 =>
ald1 t42 w6 fun t43 =>
alkM pr 9 false (.i 0) t41 t43 w6 fun t44 =>
aar .eql t37 t44 fun t45 =>
acallS pr 96 [t45, .i 4] w6 (apn R) fun t47 w10 =>
aar .add (aix v3 0) (.i 1) fun t48 =>
k3 [t48] w10)) (R (.ret (.tuple [])) w4)
theorem A102_eq : A102 = fun a0 a1 a2 a3 L R => aex pr ⟨[(7, [16])], [(5, [(0, 0), (1, 0), (2, 0), (3, 0), (4, 0), (5, 0), (6, 0), (7, 0), (8, 0), (9, 0), (10, 0), (11, 0), (12, 0), (13, 0), (14, 0), (15, 0), (16, 0), (17, 0), (18, 0), (19, 0), (20, 0), (21, 0), (22, 0), (23, 0), (24, 0), (25, 0), (26, 0), (27, 1)])]⟩ (bodyOf fn102) (aenv0 [a0, a1, a2, a3]) L (apost pr fn102.results.toList R) := by kernel_rfl
theorem s102 {a0 a1 a2 a3 : D} {L : List Bx} {R : AE → List Bx → Prop} (h : A102 a0 a1 a2 a3 L R) : ASpec pr 102 [a0, a1, a2, a3] L R :=
  aspec_of (A := ⟨[(7, [16])], [(5, [(0, 0), (1, 0), (2, 0), (3, 0), (4, 0), (5, 0), (6, 0), (7, 0), (8, 0), (9, 0), (10, 0), (11, 0), (12, 0), (13, 0), (14, 0), (15, 0), (16, 0), (17, 0), (18, 0), (19, 0), (20, 0), (21, 0), (22, 0), (23, 0), (24, 0), (25, 0), (26, 0), (27, 1)])]⟩) (fn := fn102) 4 mixed Tryz.func102 (by kernel_rfl) (by decide) rfl (by kernel_rfl) (by rw [A102_eq] at h; exact h)
noncomputable abbrev fn145 : Func := Tryz.f145
def A145 (a0 a1 : D) (L : List Bx) (R : AE → List Bx → Prop) : Prop :=
acallW pr 182 [a0, a1] L (apn R) fun t7 w1 =>
aar .geq t7 (.i 0) fun t8 =>
R (.ret t8) w1
theorem A145_eq : A145 = fun a0 a1 L R => aex pr ⟨[], []⟩ (bodyOf fn145) (aenv0 [a0, a1]) L (apost pr fn145.results.toList R) := by kernel_rfl
theorem s145 {a0 a1 : D} {L : List Bx} {R : AE → List Bx → Prop} (h : A145 a0 a1 L R) : ASpec pr 145 [a0, a1] L R :=
  aspec_of (A := ⟨[], []⟩) (fn := fn145) 2 mixed Tryz.func145 (by kernel_rfl) (by decide) rfl (by kernel_rfl) (by rw [A145_eq] at h; exact h)
noncomputable abbrev fn55 : Func := Tryz.f55
def A55 (a0 : D) (m : Option D) (L : List Bx) (R : Option D → List Bx → Prop) : Prop :=
aeqI .eql ((recD m)) (.val (.nilIface)) fun t6 =>
acnd t6 (R none L) (atas 107 (.i 0) ((recD m)) true fun t7 =>
aext 1 t7 fun t8 =>
aext 0 t7 fun t9 =>
acnd t8 (ast 1 a0 t9 L fun w1 =>
R none w1) (apnF ((recD m))))
theorem A55_eq : A55 = fun a0 m L R => aexR pr ⟨[], []⟩ R m (bodyOf fn55) (aenv0 [a0]) L := by kernel_rfl
theorem s55 {a0 : D} {m : Option D} {L : List Bx} {R : Option D → List Bx → Prop} (h : A55 a0 m L R) : ADef pr 55 [a0] m L R :=
  adef_of (A := ⟨[], []⟩) (fn := fn55) 1 mixed Tryz.func55 (by kernel_rfl) (by decide) rfl rfl (by kernel_rfl) (by rw [A55_eq] at h; exact h)
noncomputable abbrev fn26 : Func := Tryz.f26
def K26 (t2 : D) (R : AE → List Bx → Prop) (m : Option D) (L : List Bx) : Prop :=
ADef pr 55 [t2] m L fun m w => aend R m w (ald1 t2 w fun r0 =>
R (.ret r0) w)
def A26 (a0 : D) (L : List Bx) (R : AE → List Bx → Prop) : Prop :=
abxv a0 L fun t1 w1 =>
abx [.i 0] w1 fun t2 w2 =>
aldN 11 t1 w2 fun t7 =>
amkM w2 fun t8 w3 =>
abld [.nil, .nil, .nil, .nil, .nil, .nil, .i 0, .s ⟨#[]⟩, .i 0, .nil, .nil, .val (.map none)] [(0, 11, t7), (11, 1, t8)] fun t9 =>
abxv t9 w3 fun t10 w4 =>
abldS 112 1 5 [.val (.nilFunc), .val (.nilFunc), .val (.nilFunc), .val (.nilFunc), .val (.nilFunc)] [(0, 1, .fn 56 [] []), (1, 1, .fn 57 [] []), (2, 1, .fn 58 [] []), (3, 1, .fn 59 [] []), (4, 1, .fn 60 [] [])] w4 fun t11 w5 =>
alenL t11 fun t12 =>
alp [.i 0] w5 fun v4 w6 k4 =>
aar .lss (aix v4 0) t12 fun t14 =>
acnd t14 (aidxS 1 t11 (aix v4 0) fun t15 =>
ald1 t15 w6 fun t16 =>
acallF pr false t16 [t10] w6 (fun c w => K26 t2 R (some c) w) fun t19 w7 =>
aar .add (aix v4 0) (.i 1) fun t20 =>
k4 [t20] w7) (ast 1 t2 (.i 0) w6 fun w8 =>
K26 t2 R none w8)
theorem A26_eq : A26 = fun a0 L R => aexD pr ⟨[(9, [13])], []⟩ fn26.results.toList R (bodyOf fn26) (aenv0 [a0]) L := by kernel_rfl
theorem s26 {a0 : D} {L : List Bx} {R : AE → List Bx → Prop} (h : A26 a0 L R) : ASpec pr 26 [a0] L R :=
  aspec_ofD (A := ⟨[(9, [13])], []⟩) (fn := fn26) 1 mixed Tryz.func26 (by kernel_rfl) (by decide) rfl (by kernel_rfl) (by rw [A26_eq] at h; exact h)
end Go.Proofs.YtdalobojhfafbaaGreatDoor
