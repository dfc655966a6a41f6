/- Contracts of layer 18: SimFirst. -/
import Derived.Test.YtdalobojhfafbaaGreatDoorC78
import Derived.Test.YtdalobojhfafbaaGreatDoorM37
set_option maxRecDepth 100000
set_option linter.unusedVariables false
namespace Go.V
open Go
theorem i64_wrapS (n : Int) : IntKind.i64.wrap n = (n + 9223372036854775808) % 18446744073709551616 - 9223372036854775808 := by
  simp [IntKind.wrap, IntKind.bits, IntKind.signed]
  split <;> omega
theorem and_to (a : Int) (m : Nat) (hm : m ≤ 65535) : ∃ n : Nat, bitsI .and .i64 a m = n ∧ n ≤ m := by
  have h : (BitVec.ofInt 64 a &&& BitVec.ofInt 64 m).toNat ≤ m := by
    rw [BitVec.toNat_and]
    refine Nat.le_trans Nat.and_le_right ?_
    rw [BitVec.toNat_ofInt]; omega
  refine ⟨(BitVec.ofInt 64 a &&& BitVec.ofInt 64 m).toNat, ?_, h⟩
  show IntKind.i64.wrap _ = _
  rw [i64_wrapS]
  show (((BitVec.ofInt 64 a &&& BitVec.ofInt 64 m).toNat : Int) + 9223372036854775808) % 18446744073709551616 - 9223372036854775808 = _
  omega
theorem a_andTo {a : Int} {k : D → Prop} (m : Nat) (hm : m ≤ 65535) (h : ∀ n : Nat, n ≤ m → k (.i n)) : aar .and (.i a) (.i m) k := by
  obtain ⟨n, e, hn⟩ := and_to a m hm
  refine ⟨rfl, ?_⟩
  have := h n hn
  rw [← e] at this
  exact this
end Go.V
namespace Go.Proofs.YtdalobojhfafbaaGreatDoor
open Go Go.V
theorem new_call {p : Pr} {n : Int} {L M : List Bx} {kp k : D → List Bx → Prop} (hL : L.Perm ([] ++ M)) (he : ∀ e : Int, NewF p n = .error e → k (.tuple [.val (.pointer none), .i e]) M)
    (hk : ∀ S bs L0, NewF p n = .ok S → SimR bs S L0 → k (.tuple [.p bs 0, .i 0]) (L0 ++ M)) : acallW pr 13 [p.d, .i n] L kp k := by
  refine a_callF (L1 := []) (M := M) hL (c13 p n) ?_
  intro a L' h
  unfold NewR at h
  cases e : NewF p n with
  | error x =>
    rw [e] at h
    obtain ⟨rfl, rfl⟩ := h
    exact he x e
  | ok S =>
    rw [e] at h
    obtain ⟨bs, rfl, rfl⟩ := h
    refine hk S bs _ e ⟨.nil, [], rfl, ?_⟩
    rw [(New_ok e).2.2.2.2.1]; exact .nil
end Go.Proofs.YtdalobojhfafbaaGreatDoor
