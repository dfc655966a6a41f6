/- HornIdle. -/
import Derived.Test.YtdalobojhfafbaaDoorC64
import Derived.Test.YtdalobojhfafbaaDoorM13
set_option maxRecDepth 100000
set_option linter.unusedVariables false
namespace Go.V
open Go
theorem i64_wrapI (n : Int) : IntKind.i64.wrap n = (n + 9223372036854775808) % 18446744073709551616 - 9223372036854775808 := by
  simp [IntKind.wrap, IntKind.bits, IntKind.signed]
  split <;> omega
theorem and_loI (a : Int) : ∃ n : Nat, bitsI .and .i64 a 65535 = n ∧ n ≤ 65535 := by
  refine ⟨(BitVec.ofInt 64 a &&& BitVec.ofInt 64 65535).toNat, ?_, ?_⟩
  · have h : (BitVec.ofInt 64 a &&& BitVec.ofInt 64 65535).toNat ≤ 65535 := by
      rw [BitVec.toNat_and]
      exact Nat.and_le_right
    show IntKind.i64.wrap _ = _
    rw [i64_wrapI]
    show (((BitVec.ofInt 64 a &&& BitVec.ofInt 64 65535).toNat : Int) + 9223372036854775808) % 18446744073709551616 - 9223372036854775808 = _
    omega
  · rw [BitVec.toNat_and]
    exact Nat.and_le_right
theorem a_andI {a : Int} {k : D → Prop} (h : ∀ n : Nat, k (.i n)) : aar .and (.i a) (.i 65535) k := by
  obtain ⟨n, e, _⟩ := and_loI a
  refine ⟨rfl, ?_⟩
  have := h n
  rw [← e] at this
  exact this
theorem a_remI {n m : Nat} {k : D → Prop} (hm : 0 < m) (h : ∀ j : Nat, j < m → k (.i j)) : aar .rem (.i n) (.i m) k := by
  refine ⟨rfl, by omega, ?_⟩
  have := h (n % m) (Nat.mod_lt _ hm)
  rw [Int.natCast_emod] at this
  rw [Int.tmod_eq_emod_of_nonneg (by omega)]
  exact this
end Go.V
namespace Go.Proofs.YtdalobojhfafbaaDoor
open Go Go.V
end Go.Proofs.YtdalobojhfafbaaDoor
