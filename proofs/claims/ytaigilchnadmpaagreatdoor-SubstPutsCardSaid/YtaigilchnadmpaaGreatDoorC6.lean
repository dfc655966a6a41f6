/- Contracts: Norm, Is, and the laws NormAgain, NormTurned. -/
import Derived.Test.YtaigilchnadmpaaGreatDoorC5
set_option maxRecDepth 100000
set_option linter.unusedVariables false
namespace Go.Proofs.YtaigilchnadmpaaGreatDoor
open Go Go.V
theorem ret_di {u v : Tm} {a b : Int} (h : (u, a) = (v, b)) : AE.ret (.tuple [u.d, .i a]) = .ret (.tuple [v.d, .i b]) := by injection h with h1 h2; rw [h1, h2]
/-! ### the laws -/
def xT : Tm := .mk 2 ⟨#[120]⟩ 0 []
def yT : Tm := .mk 2 ⟨#[121]⟩ 0 []
theorem normF1 : NormF (mk 18 [mk 23 [xT, yT]]) = (leT yT xT, 0) := by kernel_rfl
theorem normF2 : NormF xT = (mk 0 [], 3) := by kernel_rfl
theorem isF1 : IsF (leT yT xT) = true := by kernel_rfl
theorem isF2 : IsF (mk 23 [xT, yT]) = false := by kernel_rfl
theorem sameF1 : sameF (leT yT xT) (leT yT xT) = true := by kernel_rfl
end Go.Proofs.YtaigilchnadmpaaGreatDoor
