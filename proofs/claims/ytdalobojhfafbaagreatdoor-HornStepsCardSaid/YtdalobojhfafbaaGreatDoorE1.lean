/- Whole numbers of 128 bits; sums and products that fit, or do not. -/
import Derived.Test.YtdalobojhfafbaaGreatDoorM6
import Derived.Test.YtdalobojhfafbaaGreatDoorW6
import Derived.Laws.Bits64b
import Derived.Laws.Externs
import Derived.Lib.Mul64
import Derived.Test.YtdalobojhfafbaaGreatDoorT3
import Derived.Test.YtdalobojhfafbaaGreatDoorC4
set_option maxRecDepth 100000
set_option linter.unusedVariables false
namespace Go.V
open Go
abbrev D.u (n : Nat) : D := .val (.int .u64 (n : Int))
theorem u64_wrap (n : Int) : IntKind.u64.wrap n = n % 18446744073709551616 := IntKind.wrap_u64 n
theorem i64_wrap' (n : Int) : IntKind.i64.wrap n = (n + 9223372036854775808) % 18446744073709551616 - 9223372036854775808 := by
  simp [IntKind.wrap, IntKind.bits, IntKind.signed]
  split <;> omega
section
variable {k : D → Prop} {m n : Nat}
theorem a_addU (h0 : m + n < 18446744073709551616) (h : k (.u (m + n))) : aar .add (.u m) (.u n) k := by
  refine V.a_addw ?_
  rw [u64_wrap, show ((m : Int) + n) % 18446744073709551616 = ((m + n : Nat) : Int) by omega]
  exact h
theorem a_mulU (h0 : m * n < 18446744073709551616) (h : k (.u (m * n))) : aar .mul (.u m) (.u n) k := by
  refine V.a_mulw ?_
  have e : ((m : Int) * n) = ((m * n : Nat) : Int) := by rw [Int.natCast_mul]
  rw [u64_wrap, e, show ((m * n : Nat) : Int) % 18446744073709551616 = ((m * n : Nat) : Int) by omega]
  exact h
theorem a_mulUw (h : k (.u (m * n % 18446744073709551616))) : aar .mul (.u m) (.u n) k := by
  refine V.a_mulw ?_
  have e : ((m : Int) * n) = ((m * n : Nat) : Int) := by rw [Int.natCast_mul]
  rw [u64_wrap, e, show ((m * n : Nat) : Int) % 18446744073709551616 = ((m * n % 18446744073709551616 : Nat) : Int) by omega]
  exact h
theorem a_low (h0 : m < 18446744073709551616) (h : k (.u (m % 4294967296))) : aar .and (.u m) (.val (.int .u64 4294967295)) k := by
  show _ ∧ k (.val (.int .u64 (bitsI .and .u64 (m : Int) ((4294967295 : Nat) : Int))))
  have h1 : (BitVec.ofInt 64 (m : Int)).toNat = m := by
    rw [BitVec.ofInt_natCast, BitVec.toNat_ofNat]; exact Nat.mod_eq_of_lt (by omega)
  have h2 : (BitVec.ofInt 64 ((4294967295 : Nat) : Int)).toNat = 4294967295 := by
    rw [BitVec.ofInt_natCast, BitVec.toNat_ofNat]
  have h3 : m &&& 4294967295 = m % 4294967296 := Nat.and_two_pow_sub_one_eq_mod m 32
  have e : bitsI .and .u64 (m : Int) ((4294967295 : Nat) : Int) = ((m % 4294967296 : Nat) : Int) := by
    show IntKind.u64.wrap ((BitVec.ofInt 64 (m : Int) &&& BitVec.ofInt 64 ((4294967295 : Nat) : Int)).toNat : Int) = _
    rw [BitVec.toNat_and, h1, h2, h3, u64_wrap]
    omega
  rw [e]
  exact ⟨rfl, h⟩
theorem a_shr32 (h : k (.u (m / 4294967296))) : aar .shr (.u m) (.val (.int .u64 32)) k := by
  show _ ∧ k (.val (.int .u64 ((m : Int).fdiv (2 ^ 32))))
  have e : (m : Int).fdiv (2 ^ 32) = ((m / 4294967296 : Nat) : Int) := by
    rw [Int.fdiv_eq_ediv_of_nonneg _ (by decide)]
    omega
  rw [e]
  exact ⟨by decide, h⟩
end
def wd (s : Bool) (n : Nat) : D := .agg [.b s, .u (n / 18446744073709551616), .u (n % 18446744073709551616)]
def wcs (s : Bool) (n : Nat) : List D := [.b s, .u (n / 18446744073709551616), .u (n % 18446744073709551616)]
def wval (s : Bool) (n : Nat) : Int := bif s then -(n : Int) else n
theorem inI_eq (v : Int) : inI v = decide (-9223372036854775808 ≤ v ∧ v ≤ 9223372036854775807) := by simp [inI]
theorem inI_iff {v : Int} : inI v = true ↔ -9223372036854775808 ≤ v ∧ v ≤ 9223372036854775807 := by simp [inI]
def addW (s : Bool) (n : Nat) (s' : Bool) (n' : Nat) : Bool × Nat :=
  if s = s' then (s, n + n') else if n < n' then (s', n' - n) else (s, n - n')
theorem addW_val (s : Bool) (n : Nat) (s' : Bool) (n' : Nat) : wval (addW s n s' n').1 (addW s n s' n').2 = wval s n + wval s' n' := by
  unfold addW wval
  cases s <;> cases s' <;> simp <;> first | omega | (split <;> simp <;> omega)
end Go.V
namespace Go.Proofs.YtdalobojhfafbaaGreatDoor
open Go Go.V
theorem small_i {n : Int} : Small (.i n) ↔ -9223372036854775808 ≤ n ∧ n ≤ 9223372036854775807 := by
  rw [Small]
  simp [Okv, loN, hiN]
theorem c210 (a : Int) : AFn pr 210 [.i a] [] (.ret (.u a.natAbs)) := by
  refine AFn.small fun hs => AFn.of (s210 ?_)
  rw [Smalls, small_i] at hs
  obtain ⟨⟨h1, h2⟩, _⟩ := hs
  unfold A210
  (refine a_lss ?_)
  refine a_cnd (fun h => ?_) (fun h => ?_)
  · refine a_cvI ?_
    show AE.ret _ = _
    congr 3
    rw [u64_wrap, u64_wrap]
    omega
  · refine a_cvI ?_
    show AE.ret _ = _
    congr 3
    rw [u64_wrap]
    omega
theorem c209 {x y : Nat} (hx : x < 18446744073709551616) (hy : y < 18446744073709551616) : AFn pr 209 [.u x, .u y] [] (.ret (.tuple [.u (x * y / 18446744073709551616), .u (x * y % 18446744073709551616)])) := by
  refine AFn.of (s209 ?_)
  unfold A209
  obtain ⟨h1, h2, h3, h4⟩ := Lib.mul64_hi x y hx hy
  have hq : ∀ z : Nat, z < 18446744073709551616 → z / 4294967296 < 4294967296 := fun z hz => by omega
  have ha : (x / 4294967296) * (y / 4294967296) ≤ 18446744065119617025 := Lib.half_mul_le (by omega) (by omega)
  have hb : (x / 4294967296) * (y % 4294967296) ≤ 18446744065119617025 := Lib.half_mul_le (by omega) (by omega)
  have hc : (x % 4294967296) * (y / 4294967296) ≤ 18446744065119617025 := Lib.half_mul_le (by omega) (by omega)
  refine a_low hx (a_shr32 (a_low hy (a_shr32 (a_mulU (by omega) (a_mulU (by omega) (a_shr32 (a_addU h2 (a_low h2 (a_shr32 (a_mulU (by omega) (a_addU h3 (a_mulU (by omega) (a_addU (by omega) (a_shr32 (a_addU (by omega) (a_mulUw ?_))))))))))))))))
  show AE.ret _ = _
  rw [h4]
theorem repsU3 {F : Nat → Prop} {w : World} {x y c : Nat} {vs : List Value} (hr : Reps F w [.u x, .u y, .u c] vs) : vs = [.int .u64 (x : Int), .int .u64 (y : Int), .int .u64 (c : Int)] := by
  rw [Reps] at hr
  obtain ⟨v, r, rfl, h1, h2⟩ := hr
  rw [Reps] at h2
  obtain ⟨v2, r2, rfl, h3, h4⟩ := h2
  obtain ⟨u, rfl, h5⟩ := h4.one
  rw [(rep_val_iff.1 h1).1, (rep_val_iff.1 h3).1, (rep_val_iff.1 h5).1]
theorem repU {F : Nat → Prop} {w : World} {x : Nat} (h : x < 18446744073709551616) : Rep F w (.u x) (.int .u64 (x : Int)) := rep_val (by simp only [Okv, loN, hiN]; omega)
theorem repU2 {F : Nat → Prop} {w : World} {x y : Nat} (h : x < 18446744073709551616) (h' : y < 18446744073709551616) : Rep F w (.tuple [.u x, .u y]) (.tuple #[.int .u64 (x : Int), .int .u64 (y : Int)]) := by
  rw [Rep]
  exact ⟨_, rfl, reps_cons (repU h) (reps_cons (repU h') reps_nil)⟩
theorem runExt {f : FuncId} {fn : Func} {e : Array Value → Sem Value} (hf : pr.funcs[f]? = some fn) (hname : (fn.name == "runtime.NumGoroutine") = false) (hb : fn.body.isNone = true) (hn : Extern.findNext fn = none) (he : Extern.find fn = some e)
    {args : Array Value} {w : World} {v : Value} (h : (e args).run pr w = .ok v w) : (callFunc f args).run pr w = .ok (.value v) w := by
  rw [run_callFunc_extern hf hname hb hn he, h]; rfl
def sub64Entry : Array Value → Sem Value := fun args => do
  let (x, y, b) ← Extern.MathBitsCarry.three "Sub64" args
  pure (Extern.MathBitsCarry.pair ((x + Extern.MathBitsCarry.m64 - y - b) % Extern.MathBitsCarry.m64) (if x < y + b then 1 else 0))
theorem run_sub64 {P : Program} (x y b : Nat) (hb : b ≤ 1) (w : World) :
    (sub64Entry #[.int .u64 (x : Int), .int .u64 (y : Int), .int .u64 (b : Int)]).run P w =
      .ok (.tuple #[.int .u64 (((x + 18446744073709551616 - y - b) % 18446744073709551616 : Nat) : Int), .int .u64 ((if x < y + b then 1 else 0 : Nat) : Int)]) w := by
  have : b = 0 ∨ b = 1 := by omega
  rcases this with rfl | rfl <;> rfl
theorem c211 {x y c : Nat} (hx : x < 18446744073709551616) (hy : y < 18446744073709551616) (hc : c ≤ 1) : AFn pr 211 [.u x, .u y, .u c] [] (.ret (.tuple [.u ((x + y + c) % 18446744073709551616), .u ((x + y + c) / 18446744073709551616)])) := by
  refine AFn.ofExtern fun F w vs hr => ?_
  obtain rfl := repsU3 hr
  refine ⟨_, runExt Tryz.func211 (by decide) (by kernel_rfl) (by kernel_rfl) (e := add64Entry) (by kernel_rfl) (run_add64 x y c (by omega) (by omega) (by omega) (by omega) w), ?_⟩
  have e1 : ((x : Int) + y + c) % 18446744073709551616 = (((x + y + c) % 18446744073709551616 : Nat) : Int) := by omega
  have e2 : ((x : Int) + y + c) / 18446744073709551616 = (((x + y + c) / 18446744073709551616 : Nat) : Int) := by omega
  rw [e1, e2]
  exact repU2 (by omega) (by omega)
theorem c213 {x y c : Nat} (hx : x < 18446744073709551616) (hy : y < 18446744073709551616) (hc : c ≤ 1) : AFn pr 213 [.u x, .u y, .u c] [] (.ret (.tuple [.u ((x + 18446744073709551616 - y - c) % 18446744073709551616), .u (if x < y + c then 1 else 0)])) := by
  refine AFn.ofExtern fun F w vs hr => ?_
  obtain rfl := repsU3 hr
  refine ⟨_, runExt Tryz.func213 (by decide) (by kernel_rfl) (by kernel_rfl) (e := sub64Entry) (by kernel_rfl) (run_sub64 x y c hc w), ?_⟩
  exact repU2 (by omega) (by split <;> omega)
theorem c189 (a b : Int) : AFn pr 189 [.i a, .i b] [] (.ret (wd (decide (a < 0) != decide (b < 0)) (a.natAbs * b.natAbs))) := by
  refine AFn.small fun hs => AFn.of (s189 ?_)
  rw [Smalls, Smalls, small_i, small_i] at hs
  obtain ⟨⟨h1, h2⟩, ⟨h3, h4⟩, _⟩ := hs
  unfold A189
  (refine a_bx fun z1 => ?_; refine a_call0 (c210 _) ?_; refine a_call0 (c210 _) ?_; refine a_call0 (c209 (by first | omega | assumption | decide) (by first | omega | assumption | decide)) ?_; (apply a_ext; exact rfl); (apply a_ext; exact rfl); refine a_lss ?_; refine a_lss ?_; refine a_neqB ?_; (apply a_bld _; exact rfl; (try dsimp only [afill, aparts, cl, chunk, List.take, List.drop, List.nil_append, List.cons_append, List.append_nil, List.length_cons, List.length_nil, Nat.zero_add, Nat.reduceAdd, Nat.reduceMul]); try exact rfl); refine a_stA 0 rfl rfl rfl rfl ?_; (apply a_ldA 0; exact rfl; exact rfl))
  rfl
theorem c190 (a : Int) : AFn pr 190 [.i a] [] (.ret (wd (decide (a < 0)) a.natAbs)) := by
  refine AFn.small fun hs => AFn.of (s190 ?_)
  rw [Smalls, small_i] at hs
  obtain ⟨⟨h1, h2⟩, _⟩ := hs
  unfold A190
  (refine a_bx fun z1 => ?_; refine a_lss ?_; refine a_call0 (c210 _) ?_; (apply a_bld _; exact rfl; (try dsimp only [afill, aparts, cl, chunk, List.take, List.drop, List.nil_append, List.cons_append, List.append_nil, List.length_cons, List.length_nil, Nat.zero_add, Nat.reduceAdd, Nat.reduceMul]); try exact rfl); refine a_stA 0 rfl rfl rfl rfl ?_; (apply a_ldA 0; exact rfl; exact rfl))
  unfold wd
  rw [show a.natAbs / 18446744073709551616 = 0 by omega, show a.natAbs % 18446744073709551616 = a.natAbs by omega]
  rfl
theorem c192 (s : Bool) (n : Nat) : AFn pr 192 [wd s n] [] (.ret (wd (!s) n)) := by
  refine AFn.of (s192 ?_)
  unfold A192 wd
  (refine a_bxv fun z1 => ?_; refine a_bx fun z2 => ?_; refine a_fld ?_; (apply a_ld1 1; exact rfl; exact rfl); refine a_not ?_; refine a_fld ?_; (apply a_ld1 1; exact rfl; exact rfl); refine a_fld ?_; (apply a_ld1 1; exact rfl; exact rfl); (apply a_bld _; exact rfl; (try dsimp only [afill, aparts, cl, chunk, List.take, List.drop, List.nil_append, List.cons_append, List.append_nil, List.length_cons, List.length_nil, Nat.zero_add, Nat.reduceAdd, Nat.reduceMul]); try exact rfl); refine a_stA 0 rfl rfl rfl rfl ?_; (apply a_ldA 0; exact rfl; exact rfl))
  rfl
theorem c212 (s s' : Bool) (n n' : Nat) : AFn pr 212 [wd s n, wd s' n'] [] (.ret (.b (decide (n < n')))) := by
  refine AFn.of (s212 ?_)
  unfold A212 wd
  (refine a_bxv fun z1 => ?_; refine a_bxv fun z2 => ?_; refine a_fld ?_; (apply a_ld1 1; exact rfl; exact rfl); refine a_fld ?_; (apply a_ld1 0; exact rfl; exact rfl); refine a_lss ?_)
  refine a_cnd (fun h => ?_) (fun h => ?_)
  · exact ret_b (decide_eq_true (by omega)).symm
  (refine a_fld ?_; (apply a_ld1 1; exact rfl; exact rfl); refine a_fld ?_; (apply a_ld1 0; exact rfl; exact rfl); refine a_eql ?_)
  refine V.a_jn (σ := Bool) (fun b => [.b b]) (fun _ => []) (fun b => b = decide (n < n')) ?_ fun J hJ => ?_
  · rintro b rfl
    rfl
  refine a_cnd (fun h2 => ?_) (fun h2 => ?_)
  · (refine a_fld ?_; (apply a_ld1 1; exact rfl; exact rfl); refine a_fld ?_; (apply a_ld1 0; exact rfl; exact rfl); refine a_lss ?_)
    exact hJ (decide ((n % 18446744073709551616 : Nat) < ((n' % 18446744073709551616 : Nat) : Int))) _ _ (decide_eq_decide.2 (by omega)) (by first | exact Gl.refl _ _ | exact Gl.drop (by repeat (first | exact List.Sublist.refl _ | exact List.Sublist.slnil | apply List.Sublist.cons_cons | apply List.Sublist.cons)))
  · exact hJ false _ _ (decide_eq_false (by omega)).symm (by first | exact Gl.refl _ _ | exact Gl.drop (by repeat (first | exact List.Sublist.refl _ | exact List.Sublist.slnil | apply List.Sublist.cons_cons | apply List.Sublist.cons)))
theorem wd_of {s s' : Bool} {h l n : Nat} (e1 : s = s') (e2 : h = n / 18446744073709551616) (e3 : l = n % 18446744073709551616) : D.agg [.b s, .u h, .u l] = wd s' n := by rw [e1, e2, e3]; rfl
theorem c191 (s s' : Bool) (n n' : Nat) (hn : n + n' < 340282366920938463463374607431768211456) : AFn pr 191 [wd s n, wd s' n'] [] (.ret (wd (addW s n s' n').1 (addW s n s' n').2)) := by
  refine AFn.of (s191 ?_)
  unfold A191 wd
  refine a_bxv fun z1 => ?_
  refine a_bxv fun z2 => ?_
  refine a_bx fun z3 => ?_
  (refine a_fld ?_; (apply a_ld1 2; exact rfl; exact rfl); refine a_fld ?_; (apply a_ld1 1; exact rfl; exact rfl); refine a_eqlB ?_)
  refine a_cndb (fun h => ?_) (fun h => ?_)
  · obtain rfl : s = s' := by simpa using h
    have ha : addW s n s n' = (s, n + n') := by unfold addW; rw [if_pos rfl]
    rw [ha]
    have hc : (n % 18446744073709551616 + n' % 18446744073709551616 + 0) / 18446744073709551616 ≤ 1 := by omega
    (refine a_fld ?_; (apply a_ld1 2; exact rfl; exact rfl); refine a_fld ?_; (apply a_ld1 1; exact rfl; exact rfl); refine a_call0 (c211 (by first | omega | assumption | decide) (by first | omega | assumption | decide) (by first | omega | assumption | decide)) ?_; (apply a_ext; exact rfl); (apply a_ext; exact rfl); refine a_fld ?_; (apply a_ld1 2; exact rfl; exact rfl); refine a_fld ?_; (apply a_ld1 1; exact rfl; exact rfl); refine a_call0 (c211 (by first | omega | assumption | decide) (by first | omega | assumption | decide) (by first | omega | assumption | decide)) ?_; (apply a_ext; exact rfl); (apply a_ext; exact rfl); refine a_fld ?_; (apply a_ld1 2; exact rfl; exact rfl); (apply a_bld _; exact rfl; (try dsimp only [afill, aparts, cl, chunk, List.take, List.drop, List.nil_append, List.cons_append, List.append_nil, List.length_cons, List.length_nil, Nat.zero_add, Nat.reduceAdd, Nat.reduceMul]); try exact rfl); refine a_stA 0 rfl rfl rfl rfl ?_; (apply a_ldA 0; exact rfl; exact rfl))
    exact congrArg AE.ret (wd_of (h := (n / 18446744073709551616 + n' / 18446744073709551616 + (n % 18446744073709551616 + n' % 18446744073709551616 + 0) / 18446744073709551616) % 18446744073709551616) (l := (n % 18446744073709551616 + n' % 18446744073709551616 + 0) % 18446744073709551616) rfl (by omega) (by omega))
  · have hne : s ≠ s' := by simpa using h
    have ha : addW s n s' n' = if n < n' then (s', n' - n) else (s, n - n') := by unfold addW; rw [if_neg hne]
    refine V.a_jn (σ := Bool × Nat × Bool × Nat) (fun _ => []) (fun x => [⟨z3, [.b false, .u 0, .u 0], .box⟩, ⟨z2, wcs x.2.2.1 x.2.2.2, .box⟩, ⟨z1, wcs x.1 x.2.1, .box⟩]) (fun x => x.2.2.2 ≤ x.2.1 ∧ x.2.1 < 340282366920938463463374607431768211456 ∧ addW s n s' n' = (x.1, x.2.1 - x.2.2.2)) ?_ fun J hJ => ?_
    · rintro ⟨t, m, t', m'⟩ ⟨h1, h2, h3⟩
      simp only at h1 h2 h3 ⊢
      rw [h3]
      unfold wcs
      (refine a_fld ?_; (apply a_ld1 2; exact rfl; exact rfl); refine a_fld ?_; (apply a_ld1 1; exact rfl; exact rfl); refine a_call0 (c213 (by first | omega | assumption | decide) (by first | omega | assumption | decide) (by first | omega | assumption | decide)) ?_; (apply a_ext; exact rfl); (apply a_ext; exact rfl); refine a_fld ?_; (apply a_ld1 2; exact rfl; exact rfl); refine a_fld ?_; (apply a_ld1 1; exact rfl; exact rfl))
      refine a_call0 (c213 (x := m / 18446744073709551616) (y := m' / 18446744073709551616) (by omega) (by omega) (by split <;> omega)) ?_
      ((apply a_ext; exact rfl); (apply a_ext; exact rfl); refine a_fld ?_; (apply a_ld1 2; exact rfl; exact rfl); (apply a_bld _; exact rfl; (try dsimp only [afill, aparts, cl, chunk, List.take, List.drop, List.nil_append, List.cons_append, List.append_nil, List.length_cons, List.length_nil, Nat.zero_add, Nat.reduceAdd, Nat.reduceMul]); try exact rfl); refine a_stA 0 rfl rfl rfl rfl ?_; (apply a_ldA 0; exact rfl; exact rfl))
      refine congrArg AE.ret (wd_of rfl ?_ ?_)
      · split <;> omega
      · omega
    · ((apply a_ldA 2; exact rfl; exact rfl); (apply a_ldA 1; exact rfl; exact rfl); refine a_call0 (c212 _ _ _ _) ?_)
      refine a_cnd (fun h1 => ?_) (fun h1 => ?_)
      · ((apply a_ldA 1; exact rfl; exact rfl); (apply a_ldA 2; exact rfl; exact rfl); refine a_stA 2 rfl rfl rfl rfl ?_; refine a_stA 1 rfl rfl rfl rfl ?_)
        exact hJ (s', n', s, n) _ _ ⟨by simp only; omega, by simp only; omega, by rw [ha, if_pos h1]⟩ (by first | exact Gl.refl _ _ | exact Gl.drop (by repeat (first | exact List.Sublist.refl _ | exact List.Sublist.slnil | apply List.Sublist.cons_cons | apply List.Sublist.cons)))
      · exact hJ (s, n, s', n') _ _ ⟨by simp only; omega, by simp only; omega, by rw [ha, if_neg h1]⟩ (by first | exact Gl.refl _ _ | exact Gl.drop (by repeat (first | exact List.Sublist.refl _ | exact List.Sublist.slnil | apply List.Sublist.cons_cons | apply List.Sublist.cons)))
theorem c208 (s : Bool) (n : Nat) (hn : n < 340282366920938463463374607431768211456) : AFn pr 208 [wd s n] [] (bif inI (wval s n) then .ret (.i (wval s n)) else .pan (.ifc 281 (.agg []))) := by
  refine AFn.of (s208 ?_)
  unfold A208 wd
  refine a_bxv fun z1 => ?_
  have hsi : ((18446744073709551616 : Nat) : Int) = 18446744073709551616 := rfl
  refine V.a_jn (σ := Bool) (fun b => [.b b]) (fun _ => [⟨z1, wcs s n, .box⟩]) (fun b => b = !inI (wval s n)) ?_ fun J hJ => ?_
  · rintro b rfl
    unfold wcs
    refine a_cndb (fun h => ?_) (fun h => ?_)
    · simp only [Bool.not_eq_true'] at h
      rw [h]
      ((apply a_bld _; exact rfl; (try dsimp only [afill, aparts, cl, chunk, List.take, List.drop, List.nil_append, List.cons_append, List.append_nil, List.length_cons, List.length_nil, Nat.zero_add, Nat.reduceAdd, Nat.reduceMul]); try exact rfl))
    · simp only [Bool.not_eq_false'] at h
      rw [h]
      simp only [cond_true]
      (refine a_fld ?_; (apply a_ld1 0; exact rfl; exact rfl))
      unfold wval at h ⊢
      rw [inI_iff] at h
      refine a_cndb (fun hs => ?_) (fun hs => ?_)
      · subst hs
        simp only [cond_true] at h ⊢
        (refine a_fld ?_; (apply a_ld1 0; exact rfl; exact rfl))
        refine a_negw ?_
        refine a_cvI ?_
        show AE.ret _ = _
        congr 3
        rw [u64_wrap, i64_wrap']
        omega
      · subst hs
        simp only [cond_false] at h ⊢
        (refine a_fld ?_; (apply a_ld1 0; exact rfl; exact rfl); refine a_cv64 (by first | omega | assumption | decide) (by first | omega | assumption | decide) ?_)
        exact ret_i (by omega)
  · (refine a_fld ?_; (apply a_ld1 0; exact rfl; exact rfl); refine a_gtr ?_)
    have ht : (-9223372036854775808 ≤ wval s n ∧ wval s n ≤ 9223372036854775807) ↔ (n < 9223372036854775808 ∨ (n = 9223372036854775808 ∧ s = true)) := by
      unfold wval
      cases s
      · simp; omega
      · simp; omega
    have hw : inI (wval s n) = decide (n < 9223372036854775808 ∨ (n = 9223372036854775808 ∧ s = true)) := by rw [inI_eq]; exact decide_eq_decide.2 ht
    refine a_cnd (fun h1 => ?_) (fun h1 => ?_)
    · refine hJ true _ _ ?_ (by first | exact Gl.refl _ _ | exact Gl.drop (by repeat (first | exact List.Sublist.refl _ | exact List.Sublist.slnil | apply List.Sublist.cons_cons | apply List.Sublist.cons)))
      rw [hw, decide_eq_false (by omega)]; rfl
    (refine a_fld ?_; (apply a_ld1 0; exact rfl; exact rfl); refine a_gtr ?_)
    refine a_cnd (fun h2 => ?_) (fun h2 => ?_)
    · refine hJ true _ _ ?_ (by first | exact Gl.refl _ _ | exact Gl.drop (by repeat (first | exact List.Sublist.refl _ | exact List.Sublist.slnil | apply List.Sublist.cons_cons | apply List.Sublist.cons)))
      rw [hw, decide_eq_false (by omega)]; rfl
    (refine a_fld ?_; (apply a_ld1 0; exact rfl; exact rfl); refine a_eql ?_)
    refine V.a_jn (σ := Bool) (fun b => [.b b]) (fun _ => [⟨z1, wcs s n, .box⟩]) (fun b => b = !inI (wval s n)) ?_ fun J2 hJ2 => ?_
    · rintro b hb
      exact hJ b _ _ hb (by first | exact Gl.refl _ _ | exact Gl.drop (by repeat (first | exact List.Sublist.refl _ | exact List.Sublist.slnil | apply List.Sublist.cons_cons | apply List.Sublist.cons)))
    refine a_cnd (fun h3 => ?_) (fun h3 => ?_)
    · (refine a_fld ?_; (apply a_ld1 0; exact rfl; exact rfl); refine a_not ?_)
      refine hJ2 (!s) _ _ ?_ (by first | exact Gl.refl _ _ | exact Gl.drop (by repeat (first | exact List.Sublist.refl _ | exact List.Sublist.slnil | apply List.Sublist.cons_cons | apply List.Sublist.cons)))
      rw [hw]
      cases s
      · rw [decide_eq_false (by simp; omega)]
      · rw [decide_eq_true (.inr ⟨by omega, rfl⟩)]
    · refine hJ2 false _ _ ?_ (by first | exact Gl.refl _ _ | exact Gl.drop (by repeat (first | exact List.Sublist.refl _ | exact List.Sublist.slnil | apply List.Sublist.cons_cons | apply List.Sublist.cons)))
      rw [hw, decide_eq_true (.inl (by omega))]; rfl
theorem c222n {b b' : Nat} {L : List Bx} : ADef pr 222 [.p b 0, .p b' 0] none L (fun m' L' => m' = none ∧ L' = L) := by
  refine s222 ?_
  unfold A222
  exact ⟨rfl, rfl⟩
theorem c222p {b b' : Nat} {x y : D} : ADef pr 222 [.p b 0, .p b' 0] (some (.ifc 281 (.agg []))) [⟨b', [y], .box⟩, ⟨b, [x], .box⟩] (fun m' L' => m' = none ∧ ∃ M, L' = M ++ [⟨b', [.b false], .box⟩, ⟨b, [.i 0], .box⟩]) := by
  refine s222 ?_
  unfold A222
  refine a_eqIh ?_
  refine a_cndbF rfl ?_
  refine a_tasT ?_
  ((apply a_ext; exact rfl); (apply a_ext; exact rfl); refine a_cndbT rfl ?_; refine a_bx fun z1 => ?_; refine a_st0 0 rfl (Nat.zero_le _) ?_; (apply a_st 2 _; exact rfl; exact rfl; exact rfl; exact rfl; (try dsimp only [afill, aparts, cl, chunk, List.take, List.drop, List.nil_append, List.cons_append, List.append_nil, List.length_cons, List.length_nil, Nat.zero_add, Nat.reduceAdd, Nat.reduceMul]); try exact rfl); refine a_stA 1 rfl rfl rfl rfl ?_)
  exact ⟨rfl, [_], rfl⟩
theorem c207 (s : Bool) (n : Nat) (hn : n < 340282366920938463463374607431768211456) : AFn pr 207 [.fn 208 [wd s n] []] [] (.ret (.tuple [.i (fitI (wval s n)), .b (inI (wval s n))])) := by
  refine AFn.of (s207 ?_)
  unfold A207
  refine a_bx fun z1 => ?_
  refine a_bx fun z2 => ?_
  refine a_cfW ?_
  have hc := c208 s n hn
  unfold fitI
  cases hi : inI (wval s n) with
  | true =>
    rw [hi] at hc
    refine a_call0 hc ?_
    ((apply a_st 1 _; exact rfl; exact rfl; exact rfl; exact rfl; (try dsimp only [afill, aparts, cl, chunk, List.take, List.drop, List.nil_append, List.cons_append, List.append_nil, List.length_cons, List.length_nil, Nat.zero_add, Nat.reduceAdd, Nat.reduceMul]); try exact rfl); refine a_stA 0 rfl rfl rfl rfl ?_)
    refine ADef.mono c222n ?_
    rintro m' L' ⟨rfl, rfl⟩
    refine a_end ?_
    ((apply a_ld1 1; exact rfl; exact rfl); (apply a_ld1 0; exact rfl; exact rfl))
    rfl
  | false =>
    rw [hi] at hc
    refine a_call (ae := .pan _) (AFn.frame hc) ?_
    refine ADef.mono c222p ?_
    rintro m' L' ⟨rfl, M, rfl⟩
    refine a_end ?_
    refine a_ld1 (l := [.i 0]) (kd := .box) (M.length + 1) (by simp) rfl ?_
    refine a_ld1 (l := [.b false]) (kd := .box) M.length (by simp) rfl ?_
    rfl
theorem c188 (s : Bool) (n : Nat) (hn : n < 340282366920938463463374607431768211456) : AFn pr 188 [wd s n] [] (.ret (.tuple [.i (fitI (wval s n)), .b (inI (wval s n))])) := by
  refine AFn.of (s188 ?_)
  unfold A188
  unfold wd
  (refine a_bxv fun z1 => ?_; (apply a_ldA 0; exact rfl; exact rfl); refine a_call0 (c207 _ _ (by first | omega | assumption | decide)) ?_; (apply a_ext; exact rfl); (apply a_ext; exact rfl))
  rfl
theorem natAbs_bound {a : Int} (h : -9223372036854775808 ≤ a ∧ a ≤ 9223372036854775807) : a.natAbs ≤ 9223372036854775808 := by omega
theorem wval_of (a : Int) : wval (decide (a < 0)) a.natAbs = a := by
  unfold wval
  by_cases h : a < 0
  · rw [decide_eq_true h]; simp only [cond_true]; omega
  · rw [decide_eq_false h]; simp only [cond_false]; omega
theorem c162 (a b : Int) : AFn pr 162 [.i a, .i b] [] (.ret (.tuple [.i (fitI (a + b)), .b (inI (a + b))])) := by
  refine AFn.small fun hs => AFn.of (s162 ?_)
  rw [Smalls, Smalls, small_i, small_i] at hs
  have h1 := natAbs_bound hs.1
  have h2 := natAbs_bound hs.2.1
  have hv := addW_val (decide (a < 0)) a.natAbs (decide (b < 0)) b.natAbs
  rw [wval_of, wval_of] at hv
  have hb : (addW (decide (a < 0)) a.natAbs (decide (b < 0)) b.natAbs).2 < 340282366920938463463374607431768211456 := by
    unfold addW; split
    · simp only; omega
    · split <;> (simp only; omega)
  unfold A162
  (refine a_call0 (c190 _) ?_; refine a_call0 (c190 _) ?_; refine a_call0 (c191 _ _ _ _ (by first | omega | assumption | decide)) ?_; refine a_call0 (c188 _ _ (by first | omega | assumption | decide)) ?_; (apply a_ext; exact rfl); (apply a_ext; exact rfl))
  rw [← hv]
theorem c163 (a b : Int) : AFn pr 163 [.i a, .i b] [] (.ret (.tuple [.i (fitI (a - b)), .b (inI (a - b))])) := by
  refine AFn.small fun hs => AFn.of (s163 ?_)
  rw [Smalls, Smalls, small_i, small_i] at hs
  have h1 := natAbs_bound hs.1
  have h2 := natAbs_bound hs.2.1
  have hv := addW_val (decide (a < 0)) a.natAbs (!decide (b < 0)) b.natAbs
  have hnb : wval (!decide (b < 0)) b.natAbs = -b := by
    have := wval_of b
    unfold wval at this ⊢
    cases hd : decide (b < 0) <;> rw [hd] at this <;> simp at this ⊢ <;> omega
  rw [wval_of, hnb] at hv
  have hv' : wval (addW (decide (a < 0)) a.natAbs (!decide (b < 0)) b.natAbs).1 (addW (decide (a < 0)) a.natAbs (!decide (b < 0)) b.natAbs).2 = a - b := by rw [hv]; omega
  have hb : (addW (decide (a < 0)) a.natAbs (!decide (b < 0)) b.natAbs).2 < 340282366920938463463374607431768211456 := by
    unfold addW; split
    · simp only; omega
    · split <;> (simp only; omega)
  unfold A163
  (refine a_call0 (c190 _) ?_; refine a_call0 (c190 _) ?_; refine a_call0 (c192 _ _) ?_; refine a_call0 (c191 _ _ _ _ (by first | omega | assumption | decide)) ?_; refine a_call0 (c188 _ _ (by first | omega | assumption | decide)) ?_; (apply a_ext; exact rfl); (apply a_ext; exact rfl))
  rw [← hv']
theorem c161 (a b : Int) : AFn pr 161 [.i a, .i b] [] (.ret (.tuple [.i (fitI (a * b)), .b (inI (a * b))])) := by
  refine AFn.small fun hs => AFn.of (s161 ?_)
  rw [Smalls, Smalls, small_i, small_i] at hs
  have h1 := natAbs_bound hs.1
  have h2 := natAbs_bound hs.2.1
  have hb : a.natAbs * b.natAbs < 340282366920938463463374607431768211456 := Nat.lt_of_le_of_lt (Nat.mul_le_mul h1 h2) (by decide)
  have hv : wval (decide (a < 0) != decide (b < 0)) (a.natAbs * b.natAbs) = a * b := by
    unfold wval
    rw [Int.natCast_mul]
    by_cases ha : a < 0 <;> by_cases hb : b < 0
    · rw [decide_eq_true ha, decide_eq_true hb, show (a.natAbs : Int) = -a by omega, show (b.natAbs : Int) = -b by omega]
      simp [Int.neg_mul_neg]
    · rw [decide_eq_true ha, decide_eq_false hb, show (a.natAbs : Int) = -a by omega, show (b.natAbs : Int) = b by omega]
      simp [Int.neg_mul]
    · rw [decide_eq_false ha, decide_eq_true hb, show (a.natAbs : Int) = a by omega, show (b.natAbs : Int) = -b by omega]
      simp [Int.mul_neg]
    · rw [decide_eq_false ha, decide_eq_false hb, show (a.natAbs : Int) = a by omega, show (b.natAbs : Int) = b by omega]
      simp
  unfold A161
  (refine a_call0 (c189 _ _) ?_; refine a_call0 (c188 _ _ (by first | omega | assumption | decide)) ?_; (apply a_ext; exact rfl); (apply a_ext; exact rfl))
  rw [← hv]
end Go.Proofs.YtdalobojhfafbaaGreatDoor
set_option maxRecDepth 100000
set_option linter.unusedVariables false
namespace Go.Proofs.YtdalobojhfafbaaGreatDoor
open Go Go.V
theorem c49 (s : List Bool) (hl : s.length ≤ 140737488355328) : AFn pr 49 [.row 1 (s.map bc)] [] (.ret (.row 1 (s.map bc))) := by
  refine AFn.small fun hs => AFn.ofGe (s49 ?_)
  rw [Smalls, Small, List.length_map] at hs
  unfold A49
  refine a_eqSn (fun h => ?_) ?_
  · rw [h]
    exact ge_nil
  · refine a_cndbF rfl ?_
    refine a_bldO [] rfl rfl fun z1 => ?_
    refine a_app 0 [] s.length (s.map bc).flatten rfl rfl ⟨rfl, by rw [List.length_map], rfl⟩ (flat_one bc_one s) (by omega) fun b' c' => ?_
    rw [Nat.zero_add]
    exact ge_row bc_len 0 rfl
theorem c54 (v : Vl) (hl : v.s.length ≤ 140737488355328) : AFn pr 54 [v.d] [] (.ret v.d) := by
  refine AFn.of (s54 ?_)
  unfold A54
  refine a_bxv fun z1 => ?_
  (refine a_bx fun z2 => ?_; refine a_fld ?_; (apply a_ld1 1; exact rfl; exact rfl); refine a_call0 (c49 _ (by first | omega | assumption | decide)) ?_; refine a_fld ?_; (apply a_st 1 _; exact rfl; exact rfl; exact rfl; exact rfl; (try dsimp only [afill, aparts, cl, chunk, List.take, List.drop, List.nil_append, List.cons_append, List.append_nil, List.length_cons, List.length_nil, Nat.zero_add, Nat.reduceAdd, Nat.reduceMul]); try exact rfl); (apply a_ldA 1; exact rfl; exact rfl); refine a_stA 0 rfl rfl rfl rfl ?_; (apply a_ldA 0; exact rfl; exact rfl))
  rfl
theorem c95 {b b' : Nat} (x : Nv) (nm : ByteArray) (st : Int) : AFn pr 95 [.agg x.cs, .p b 0, .p b' 0] [⟨b', [.i st], .box⟩, ⟨b, [.s nm], .box⟩] (.ret (.b (decide (x.nm = nm) && decide (x.v.sort = st)))) := by
  refine AFn.ofL (s95 ?_)
  unfold A95 Nv.cs
  refine a_bxv fun z1 => ?_
  (refine a_fld ?_; (apply a_ld1 0; exact rfl; exact rfl); (apply a_ld1 2; exact rfl; exact rfl); refine a_eqlS ?_)
  refine a_cnd (fun h => ?_) (fun h => ?_)
  · (refine a_fld ?_; refine a_fld ?_; (apply a_ld1 0; exact rfl; exact rfl); (apply a_ld1 1; exact rfl; exact rfl); refine a_eql ?_)
    exact ⟨ret_b (by rw [decide_eq_true h, Bool.true_and]), by simp⟩
  · exact ⟨ret_b (by rw [decide_eq_false h, Bool.false_and]), by simp⟩
theorem c94 {b b' : Nat} (l : List Nv) (nm : ByteArray) (st : Int) : AFn pr 94 [.row 5 (l.map Nv.cs), .fn 95 [] [.p b 0, .p b' 0]] [⟨b', [.i st], .box⟩, ⟨b, [.s nm], .box⟩] (.ret (.i (findF nm st l 0))) := by
  refine AFn.small fun hs => AFn.ofL (s94 ?_)
  rw [Smalls, Small, List.length_map] at hs
  have hs := hs.1.1
  unfold A94
  refine a_lenM ?_
  refine a_lp (σ := Nat) (fun i => [.i i]) (fun _ => [⟨b', [.i st], .box⟩, ⟨b, [.s nm], .box⟩]) (fun i => i ≤ l.length ∧ findF nm st (l.drop i) i = findF nm st l 0) (fun i => l.length - i) 0 (by first | exact Gl.refl _ _ | exact Gl.drop (by repeat (first | exact List.Sublist.refl _ | exact List.Sublist.slnil | apply List.Sublist.cons_cons | apply List.Sublist.cons))) ⟨Nat.zero_le _, rfl⟩ ?_
  rintro i K ⟨hi, hd⟩ hK
  dsimp only [aix0, aix1, aix2, aix3, aix4, aix5, aix6, aix7, aix8]
  (refine a_lss ?_)
  refine a_cnd (fun h => ?_) (fun h => ?_)
  · have hi1 : i < l.length := by omega
    rw [List.drop_eq_getElem_cons hi1, findF] at hd
    refine a_idxM i hi1 ?_
    ((apply a_ldAp; exact rfl); refine a_cfW ?_)
    refine a_cfW ?_
    refine a_callR (c95 l[i] nm st) ?_
    refine a_cndb (fun h1 => ?_) (fun h1 => ?_)
    · rw [Bool.and_eq_true, decide_eq_true_eq, decide_eq_true_eq] at h1
      rw [if_pos h1] at hd
      exact ⟨ret_i hd, List.Sublist.refl _⟩
    · rw [if_neg (by rw [← Bool.not_eq_true, Bool.and_eq_true, decide_eq_true_eq, decide_eq_true_eq] at h1; exact h1)] at hd
      (refine a_add (by first | omega | assumption | decide) (by first | omega | assumption | decide) ?_)
      exact hK (i + 1) _ _ ⟨by omega, hd⟩ (by omega) (by first | exact Gl.refl _ _ | exact Gl.drop (by repeat (first | exact List.Sublist.refl _ | exact List.Sublist.slnil | apply List.Sublist.cons_cons | apply List.Sublist.cons)))
  · rw [List.drop_eq_nil_of_le (by omega), findF] at hd
    exact ⟨ret_i hd, List.Sublist.refl _⟩
theorem c53 (w : Wd) (nm : ByteArray) (st : Int) : AFn pr 53 [w.d, .s nm, .i st] [] (.ret (.i (findF nm st w.names 0))) := by
  refine AFn.of (s53 ?_)
  unfold A53
  refine a_bxv fun z1 => ?_
  refine a_bxs fun z2 => ?_
  refine a_bxi fun z3 => ?_
  (refine a_fld ?_; (apply a_ld1 2; exact rfl; exact rfl))
  refine a_callW (R := fun a L' => a = .ret (.i (findF nm st w.names 0))) ?_ ?_
  · exact (ASpec.frame (L1 := [⟨z3, [.i st], .box⟩, ⟨z2, [.s nm], .box⟩, ⟨z1, w.cs, .box⟩]) (M := [⟨z1, w.cs, .box⟩]) (c94 w.names nm st) (List.Perm.refl _)).mono fun a L' ⟨L2, _, h, _⟩ => h
  · rintro a L' rfl
    rfl
theorem c52 (v : Vl) (n : Int) : AFn pr 52 [v.d, .i n] [] (.ret (.b (isF v n))) := by
  unfold isF
  refine AFn.of (s52 ?_)
  unfold A52
  refine a_bxv fun z1 => ?_
  skip
  refine V.a_jn (σ := Int) (fun m => [.i m]) (fun _ => [⟨z1, v.cs, .box⟩]) (fun m => m = if v.sort = 2 then n else 0) ?_ fun J hJ => ?_
  · rintro m hm
    rw [← hm]
    dsimp only [aix0, aix1, aix2, aix3, aix4, aix5, aix6, aix7, aix8]
    refine V.a_jn (σ := Unit) (fun _ => []) (fun _ => [⟨z1, v.cs, .box⟩]) (fun _ => (v.s.length : Int) = m ∧ (v.b && decide (v.sort ≠ 4)) = false) ?_ fun J hJ => ?_
    · rintro _ ⟨h1, h2⟩
      rw [decide_eq_true h1, h2]
      simp only [Bool.not_false, Bool.true_and]
      (refine a_fld ?_; (apply a_ld1 0; exact rfl; exact rfl); refine a_eql ?_)
      refine a_cnd (fun q1 => ?_) (fun q1 => ?_)
      · exact ret_b (decide_eq_true (.inl q1)).symm
      (refine a_eql ?_)
      refine a_cnd (fun q2 => ?_) (fun q2 => ?_)
      · (refine a_fld ?_; (apply a_ld1 0; exact rfl; exact rfl); refine a_geq ?_)
        refine a_cnd (fun q3 => ?_) (fun q3 => ?_)
        · (refine a_fld ?_; (apply a_ld1 0; exact rfl; exact rfl); refine a_lss ?_)
          exact ret_b (decide_eq_decide.2 (by omega))
        · exact ret_b (by rw [eq_comm, decide_eq_false_iff_not]; omega)
      (refine a_eql ?_)
      refine a_cnd (fun q3 => ?_) (fun q3 => ?_)
      · (refine a_cndT (by first | omega | assumption | decide) ?_; refine a_fld ?_; (apply a_ld1 0; exact rfl; exact rfl); refine a_eql ?_)
        exact ret_b (decide_eq_decide.2 (by omega))
      (refine a_eql ?_)
      refine a_cnd (fun q4 => ?_) (fun q4 => ?_)
      · (refine a_fld ?_; (apply a_ld1 0; exact rfl; exact rfl); refine a_eql ?_)
        exact ret_b (decide_eq_decide.2 (by omega))
      · exact ret_b (by rw [eq_comm, decide_eq_false_iff_not]; omega)
    · (refine a_fld ?_; (apply a_ld1 0; exact rfl; exact rfl); refine a_lenM ?_; refine a_neq ?_)
      have hf : ∀ x : Bool, ¬ ((v.s.length : Int) = m ∧ (v.b && decide (v.sort ≠ 4)) = false) → AE.ret (.b false) = AE.ret (.b (decide ((v.s.length : Int) = m) && !(v.b && decide (v.sort ≠ 4)) && x)) := fun x h => by
        refine ret_b ?_
        by_cases h1 : (v.s.length : Int) = m
        · have h2 : (v.b && decide (v.sort ≠ 4)) = true := by
            cases hb : (v.b && decide (v.sort ≠ 4))
            · exact absurd ⟨h1, hb⟩ h
            · rfl
          rw [h2]; simp
        · rw [decide_eq_false h1]; simp
      refine a_cnd (fun q1 => ?_) (fun q1 => ?_)
      · exact hf _ fun h => q1 h.1
      (refine a_fld ?_; (apply a_ld1 0; exact rfl; exact rfl))
      refine V.a_jn (σ := Bool) (fun b => [.b b]) (fun _ => [⟨z1, v.cs, .box⟩]) (fun b => b = (v.b && decide (v.sort ≠ 4))) ?_ fun J2 hJ2 => ?_
      · rintro b hb
        dsimp only [aix0, aix1, aix2, aix3, aix4, aix5, aix6, aix7, aix8]
        refine a_cndb (fun q2 => ?_) (fun q2 => ?_)
        · exact hf _ fun h => by rw [← hb, q2] at h; cases h.2
        · exact hJ () _ _ ⟨Classical.not_not.1 q1, by rw [← hb]; exact q2⟩ (by first | exact Gl.refl _ _ | exact Gl.drop (by repeat (first | exact List.Sublist.refl _ | exact List.Sublist.slnil | apply List.Sublist.cons_cons | apply List.Sublist.cons)))
      refine a_cndb (fun q2 => ?_) (fun q2 => ?_)
      · (refine a_fld ?_; (apply a_ld1 0; exact rfl; exact rfl); refine a_neq ?_)
        exact hJ2 _ _ _ (by rw [q2, Bool.true_and]) (by first | exact Gl.refl _ _ | exact Gl.drop (by repeat (first | exact List.Sublist.refl _ | exact List.Sublist.slnil | apply List.Sublist.cons_cons | apply List.Sublist.cons)))
      · exact hJ2 _ _ _ (by rw [q2, Bool.false_and]) (by first | exact Gl.refl _ _ | exact Gl.drop (by repeat (first | exact List.Sublist.refl _ | exact List.Sublist.slnil | apply List.Sublist.cons_cons | apply List.Sublist.cons)))
  · (refine a_fld ?_; (apply a_ld1 0; exact rfl; exact rfl); refine a_eql ?_)
    refine a_cnd (fun q => ?_) (fun q => ?_)
    · exact hJ n _ _ (by rw [if_pos q]) (by first | exact Gl.refl _ _ | exact Gl.drop (by repeat (first | exact List.Sublist.refl _ | exact List.Sublist.slnil | apply List.Sublist.cons_cons | apply List.Sublist.cons)))
    · exact hJ 0 _ _ (by rw [if_neg q]) (by first | exact Gl.refl _ _ | exact Gl.drop (by repeat (first | exact List.Sublist.refl _ | exact List.Sublist.slnil | apply List.Sublist.cons_cons | apply List.Sublist.cons)))
theorem laidOut0 : laidOutB pr = true := by kernel_rfl
theorem keyE : MapKey pr 102 PairK :=
  mapKey_pair laidOut0 (of_decide_eq_true (by kernel_rfl)) (of_decide_eq_true (by kernel_rfl)) (by kernel_rfl) (fs := _) (a := _) (b := _) rfl rfl rfl rfl rfl rfl rfl rfl rfl rfl rfl
theorem metB_iff {x : Nv} {l : List Nv} : metB x l = true ↔ ∃ y ∈ l, y.nm = x.nm ∧ y.v.sort = x.v.sort := by
  simp [metB]
theorem c23 (w : Wd) : AFn pr 23 [w.d] [] (.ret (.b (rightW w))) := by
  refine AFn.small fun hs => AFn.of (s23 ?_)
  rw [Smalls] at hs
  obtain ⟨hn, hl, hx⟩ := Wd.small hs.1
  unfold A23
  refine a_bxv fun z1 => ?_
  refine V.a_jn (σ := Unit) (fun _ => []) (fun _ => [⟨z1, w.cs, .box⟩]) (fun _ => 1 ≤ w.nodes ∧ w.nodes ≤ 64 ∧ w.names.length ≤ 64) ?_ fun J hJ => ?_
  · rintro _ ⟨h1, h2, h3⟩
    (refine a_mkM fun z2 => ?_; refine a_fld ?_; (apply a_ld1 1; exact rfl; exact rfl); refine a_lenM ?_)
    refine a_lp (σ := Nat) (fun i => [.i i]) (fun i => [⟨z2, [], .map ((w.names.take i).map fun x => (pairV x.nm x.v.sort, .b true))⟩, ⟨z1, w.cs, .box⟩]) (fun i => i ≤ w.names.length ∧ rightLW w.nodes (w.names.take i) (w.names.drop i) = rightLW w.nodes [] w.names) (fun i => w.names.length - i) 0 (by first | exact Gl.refl _ _ | exact Gl.drop (by repeat (first | exact List.Sublist.refl _ | exact List.Sublist.slnil | apply List.Sublist.cons_cons | apply List.Sublist.cons))) ⟨Nat.zero_le _, rfl⟩ ?_
    rintro i K ⟨hi, hd⟩ hK
    dsimp only [aix0, aix1, aix2, aix3, aix4, aix5, aix6, aix7, aix8]
    (refine a_lss ?_)
    refine a_cnd (fun q => ?_) (fun q => ?_)
    · have hi1 : i < w.names.length := by omega
      rw [List.drop_eq_getElem_cons hi1, rightLW] at hd
      have hall : (1 ≤ w.nodes ∧ w.nodes ≤ 64 ∧ w.names.length ≤ 64) := ⟨h1, h2, h3⟩
      have hfalse : (nameF w.names[i].nm.data.toList && isF w.names[i].v w.nodes && !metB w.names[i] (w.names.take i)) = false → AE.ret (.b false) = AE.ret (.b (rightW w)) := fun h => by
        rw [h, Bool.false_and] at hd
        exact ret_b (by rw [rightW, ← hd, Bool.and_false])
      obtain ⟨hnm, hv⟩ := Nv.small (hx _ (List.getElem_mem hi1))
      obtain ⟨hst, _, _⟩ := Vl.small hv
      have hK1 : PairK (pairV w.names[i].nm w.names[i].v.sort) := ⟨_, _, rfl, hnm, hst.1, hst.2⟩
      have hes : ∀ e ∈ (w.names.take i).map (fun x => (pairV x.nm x.v.sort, D.b true)), PairK e.1 := fun e he => by
        obtain ⟨x, hx', rfl⟩ := List.mem_map.1 he
        obtain ⟨q1, q2⟩ := Nv.small (hx _ (List.mem_of_mem_take hx'))
        obtain ⟨q3, _, _⟩ := Vl.small q2
        exact ⟨_, _, rfl, q1, q3.1, q3.2⟩
      refine a_idxM i hi1 ?_
      ((apply a_ldAp; exact rfl); refine a_bx fun z3 => ?_; refine a_stA 0 rfl rfl rfl rfl ?_; refine a_fld ?_; (apply a_ld1 0; exact rfl; exact rfl); refine a_fld ?_; refine a_fld ?_; (apply a_ld1 0; exact rfl; exact rfl); (apply a_bld _; exact rfl; (try dsimp only [afill, aparts, cl, chunk, List.take, List.drop, List.nil_append, List.cons_append, List.append_nil, List.length_cons, List.length_nil, Nat.zero_add, Nat.reduceAdd, Nat.reduceMul]); try exact rfl); refine a_bx fun z4 => ?_; refine a_stA 0 rfl rfl rfl rfl ?_; refine a_fld ?_; (apply a_ld1 1; exact rfl; exact rfl); refine a_call0 (c51) ?_; refine a_not ?_)
      refine a_cndb (fun q1 => ?_) (fun q1 => ?_)
      · exact hfalse (by simp only [Bool.not_eq_true'] at q1; rw [q1]; rfl)
      (refine a_fld ?_; (apply a_ldN 1 _; exact rfl; exact rfl; exact rfl); refine a_fld ?_; (apply a_ld1 3; exact rfl; exact rfl); refine a_call0 (c52 _ _) ?_; refine a_not ?_)
      refine a_cndb (fun q2 => ?_) (fun q2 => ?_)
      · refine hfalse ?_
        simp only [Bool.not_eq_true'] at q2
        rw [show isF w.names[i].v w.nodes = false from q2, Bool.and_false]; rfl
      ((apply a_ldA 0; exact rfl; exact rfl))
      have hin : ∀ y ∈ w.names.take i, y.nm = w.names[i].nm ∧ y.v.sort = w.names[i].v.sort → metB w.names[i] (w.names.take i) = true := fun y hy h => metB_iff.2 ⟨y, hy, h⟩
      cases hm : metB w.names[i] (w.names.take i) with
      | true =>
        obtain ⟨y, hy, e1, e2⟩ := metB_iff.1 hm
        refine a_lkT (d := .b true) 2 rfl keyE hes (dkv_pair _ _) hK1 (List.mem_map.2 ⟨y, hy, by rw [e1, e2]⟩) ?_
        exact hfalse (by rw [hm]; simp)
      | false =>
        have hne : ∀ e ∈ (w.names.take i).map (fun x => (pairV x.nm x.v.sort, D.b true)), e.1 ≠ pairV w.names[i].nm w.names[i].v.sort := fun e he hh => by
          obtain ⟨y, hy, rfl⟩ := List.mem_map.1 he
          rw [hin y hy (pairV_inj hh)] at hm
          cases hm
        refine a_lkF 2 rfl keyE hes (dkv_pair _ _) hK1 hne ?_
        refine a_cndbF rfl ?_
        ((apply a_ldA 0; exact rfl; exact rfl))
        refine a_upN 2 rfl keyE hes (dkv_pair _ _) hK1 hne ?_
        (refine a_add (by first | omega | assumption | decide) (by first | omega | assumption | decide) ?_)
        rw [show (w.names.take i).map (fun x => (pairV x.nm x.v.sort, D.b true)) ++ [(pairV w.names[i].nm w.names[i].v.sort, D.b true)] = (w.names.take (i + 1)).map (fun x => (pairV x.nm x.v.sort, D.b true)) by
          rw [List.take_succ_eq_append_getElem hi1, List.map_append]; rfl]
        refine hK (i + 1) _ _ ⟨by omega, ?_⟩ (by omega) (by first | exact Gl.refl _ _ | exact Gl.drop (by repeat (first | exact List.Sublist.refl _ | exact List.Sublist.slnil | apply List.Sublist.cons_cons | apply List.Sublist.cons)))
        simp only [Bool.not_eq_false'] at q1 q2
        rw [show isF w.names[i].v w.nodes = true from q2, q1, hm, Bool.true_and, Bool.not_false, Bool.true_and, Bool.true_and] at hd
        rw [List.take_succ_eq_append_getElem hi1]
        exact hd
    · rw [List.drop_eq_nil_of_le (by omega), rightLW] at hd
      exact ret_b (by rw [rightW, ← hd, decide_eq_true h1, decide_eq_true h2, decide_eq_true h3]; rfl)
  · (refine a_fld ?_; (apply a_ld1 0; exact rfl; exact rfl); refine a_lss ?_)
    refine a_cnd (fun q => ?_) (fun q => ?_)
    · exact ret_b (by rw [rightW, decide_eq_false (by omega : ¬ 1 ≤ w.nodes)]; rfl)
    (refine a_fld ?_; (apply a_ld1 0; exact rfl; exact rfl); refine a_gtr ?_)
    refine a_cnd (fun q2 => ?_) (fun q2 => ?_)
    · exact ret_b (by rw [rightW, decide_eq_false (by omega : ¬ w.nodes ≤ 64), Bool.and_false]; rfl)
    (refine a_fld ?_; (apply a_ld1 0; exact rfl; exact rfl); refine a_lenM ?_; refine a_gtr ?_)
    refine a_cnd (fun q3 => ?_) (fun q3 => ?_)
    · exact ret_b (by rw [rightW, decide_eq_false (by omega : ¬ w.names.length ≤ 64), Bool.and_false]; rfl)
    exact hJ () _ _ ⟨by omega, by omega, by omega⟩ (by first | exact Gl.refl _ _ | exact Gl.drop (by repeat (first | exact List.Sublist.refl _ | exact List.Sublist.slnil | apply List.Sublist.cons_cons | apply List.Sublist.cons)))
theorem findF_at {nm : ByteArray} {st : Int} : ∀ (l : List Nv) (i : Nat), (findF nm st l i = -1 ∧ ∀ x ∈ l, ¬ (x.nm = nm ∧ x.v.sort = st)) ∨ ∃ j x, findF nm st l i = (i + j : Nat) ∧ l[j]? = some x ∧ x.nm = nm ∧ x.v.sort = st
  | [], i => .inl ⟨rfl, fun x hx => by cases hx⟩
  | x :: r, i => by
    rw [findF]
    by_cases h : x.nm = nm ∧ x.v.sort = st
    · rw [if_pos h]
      exact .inr ⟨0, x, rfl, rfl, h.1, h.2⟩
    · rw [if_neg h]
      rcases findF_at r (i + 1) with ⟨h1, h2⟩ | ⟨j, y, h1, h2, h3⟩
      · refine .inl ⟨h1, fun y hy => ?_⟩
        rcases List.mem_cons.1 hy with rfl | hy
        · exact h
        · exact h2 y hy
      · exact .inr ⟨j + 1, y, by rw [h1]; congr 1; omega, h2, h3⟩
theorem find_get {nm : ByteArray} {st : Int} : ∀ (l : List Nv) (i : Nat), (findF nm st l i = -1 ∧ getF l nm st = none) ∨ ∃ j x, findF nm st l i = (i + j : Nat) ∧ l[j]? = some x ∧ getF l nm st = some x.v
  | [], i => .inl ⟨rfl, rfl⟩
  | x :: r, i => by
    unfold getF
    rw [findF, List.find?_cons]
    by_cases h : x.nm = nm ∧ x.v.sort = st
    · rw [if_pos h, decide_eq_true h.1, decide_eq_true h.2]
      exact .inr ⟨0, x, rfl, rfl, rfl⟩
    · have hd : (decide (x.nm = nm) && decide (x.v.sort = st)) = false := by
        rw [← Bool.not_eq_true, Bool.and_eq_true, decide_eq_true_eq, decide_eq_true_eq]; exact h
      rw [if_neg h, hd]
      rcases find_get r (i + 1) with ⟨h1, h2⟩ | ⟨j, y, h1, h2, h3⟩
      · exact .inl ⟨h1, h2⟩
      · exact .inr ⟨j + 1, y, by rw [h1]; congr 1; omega, h2, h3⟩
def smallW (w : Wd) : Prop := ∀ x ∈ w.names, x.v.s.length ≤ 140737488355328
theorem c24 (w : Wd) (nm : ByteArray) (st : Int) (hw : smallW w) : AFn pr 24 [w.d, .s nm, .i st] [] (.ret (getD' w.names nm st)) := by
  refine AFn.of (s24 ?_)
  unfold A24 getD'
  refine a_bxv fun z1 => ?_
  (refine a_bx fun z2 => ?_; (apply a_ldA 1; exact rfl; exact rfl); refine a_call0 (c53 _ _ _) ?_; refine a_lss ?_)
  rcases find_get (nm := nm) (st := st) w.names 0 with ⟨h1, h2⟩ | ⟨j, x, h1, h2, h3⟩
  · rw [h1, h2]
    (refine a_cndbT rfl ?_; refine a_bldV0 rfl rfl ?_; refine a_stA 0 rfl rfl rfl rfl ?_; (apply a_ldA 0; exact rfl; exact rfl))
    rfl
  · rw [h1, h3]
    obtain ⟨hj, hx⟩ := List.getElem?_eq_some_iff.1 h2
    have hxs := hw x (hx ▸ List.getElem_mem hj)
    refine a_cndF (by omega) ?_
    (refine a_fld ?_; (apply a_ld1 1; exact rfl; exact rfl))
    refine a_idxMz j (by omega) hj ?_
    rw [hx]
    (refine a_fldp ?_; (apply a_ldAp; exact rfl); refine a_call0 (c54 x.v hxs) ?_; refine a_stA 0 rfl rfl rfl rfl ?_; (apply a_ldA 0; exact rfl; exact rfl))
    rfl
theorem cntF_rng : ∀ l : List Bool, 0 ≤ cntF l ∧ cntF l ≤ l.length
  | [] => by simp [cntF]
  | x :: r => by
    have := cntF_rng r
    rw [cntF, List.length_cons]
    cases x <;> simp <;> omega
theorem c158 (s : List Bool) : AFn pr 158 [.row 1 (s.map bc)] [] (.ret (.i (cntF s))) := by
  refine AFn.small fun hs => AFn.of (s158 ?_)
  rw [Smalls, Small, List.length_map] at hs
  have hs := hs.1.1
  unfold A158
  refine a_lenM ?_
  have hr := cntF_rng s
  refine a_lp2 (σ := Int) (τ := Nat) (fun n i => [.i n, .i i]) (fun _ _ => []) (fun n i => i ≤ s.length ∧ n + cntF (s.drop i) = cntF s ∧ 0 ≤ n) (fun _ i => s.length - i) 0 0 (by first | exact Gl.refl _ _ | exact Gl.drop (by repeat (first | exact List.Sublist.refl _ | exact List.Sublist.slnil | apply List.Sublist.cons_cons | apply List.Sublist.cons))) ⟨Nat.zero_le _, by simp, by omega⟩ ?_
  rintro n i K ⟨hi, hd, hn⟩ hK
  dsimp only [aix0, aix1, aix2, aix3, aix4, aix5, aix6, aix7, aix8]
  (refine a_lss ?_)
  refine a_cnd (fun q => ?_) (fun q => ?_)
  · have hi1 : i < s.length := by omega
    rw [List.drop_eq_getElem_cons hi1, cntF] at hd
    have hr2 := cntF_rng (s.drop (i + 1))
    refine a_idxM i hi1 ?_
    ((apply a_ld1p; exact rfl))
    refine a_cndb (fun q1 => ?_) (fun q1 => ?_)
    · rw [q1] at hd
      simp only [if_true] at hd
      (refine a_add (by first | omega | assumption | decide) (by first | omega | assumption | decide) ?_; refine a_add (by first | omega | assumption | decide) (by first | omega | assumption | decide) ?_)
      exact hK (n + 1) (i + 1) _ _ ⟨by omega, by omega, by omega⟩ (by omega) (by first | exact Gl.refl _ _ | exact Gl.drop (by repeat (first | exact List.Sublist.refl _ | exact List.Sublist.slnil | apply List.Sublist.cons_cons | apply List.Sublist.cons)))
    · rw [q1] at hd
      simp only [Bool.false_eq_true, if_false] at hd
      (refine a_add (by first | omega | assumption | decide) (by first | omega | assumption | decide) ?_)
      exact hK n (i + 1) _ _ ⟨by omega, by omega, by omega⟩ (by omega) (by first | exact Gl.refl _ _ | exact Gl.drop (by repeat (first | exact List.Sublist.refl _ | exact List.Sublist.slnil | apply List.Sublist.cons_cons | apply List.Sublist.cons)))
  · rw [List.drop_eq_nil_of_le (by omega), cntF] at hd
    exact ret_i (by omega)
theorem c165 (s t : List Bool) (hl : s.length ≤ t.length) : AFn pr 165 [.row 1 (s.map bc), .row 1 (t.map bc)] [] (.ret (.b (withinF s t))) := by
  refine AFn.small fun hs => AFn.of (s165 ?_)
  rw [Smalls, Small, List.length_map] at hs
  have hs := hs.1.1
  unfold A165
  refine a_lenM ?_
  refine a_lp (σ := Nat) (fun i => [.i i]) (fun _ => []) (fun i => i ≤ s.length ∧ withinF (s.drop i) (t.drop i) = withinF s t) (fun i => s.length - i) 0 (by first | exact Gl.refl _ _ | exact Gl.drop (by repeat (first | exact List.Sublist.refl _ | exact List.Sublist.slnil | apply List.Sublist.cons_cons | apply List.Sublist.cons))) ⟨Nat.zero_le _, rfl⟩ ?_
  rintro i K ⟨hi, hd⟩ hK
  dsimp only [aix0, aix1, aix2, aix3, aix4, aix5, aix6, aix7, aix8]
  (refine a_lss ?_)
  refine a_cnd (fun q => ?_) (fun q => ?_)
  · have hi1 : i < s.length := by omega
    have hi2 : i < t.length := by omega
    rw [List.drop_eq_getElem_cons hi1, List.drop_eq_getElem_cons hi2, withinF, List.headD_cons, List.tail_cons] at hd
    refine a_idxM i hi1 ?_
    ((apply a_ld1p; exact rfl))
    refine a_cndb (fun q1 => ?_) (fun q1 => ?_)
    · rw [q1] at hd
      refine a_idxM i hi2 ?_
      ((apply a_ld1p; exact rfl); refine a_not ?_)
      refine a_cndb (fun q2 => ?_) (fun q2 => ?_)
      · rw [show t[i] = false by simpa using q2] at hd
        exact ret_b (by rw [← hd]; rfl)
      · rw [show t[i] = true by simpa using q2] at hd
        (refine a_add (by first | omega | assumption | decide) (by first | omega | assumption | decide) ?_)
        exact hK (i + 1) _ _ ⟨by omega, by rw [← hd]; rfl⟩ (by omega) (by first | exact Gl.refl _ _ | exact Gl.drop (by repeat (first | exact List.Sublist.refl _ | exact List.Sublist.slnil | apply List.Sublist.cons_cons | apply List.Sublist.cons)))
    · rw [q1] at hd
      (refine a_add (by first | omega | assumption | decide) (by first | omega | assumption | decide) ?_)
      exact hK (i + 1) _ _ ⟨by omega, by rw [← hd]; rfl⟩ (by omega) (by first | exact Gl.refl _ _ | exact Gl.drop (by repeat (first | exact List.Sublist.refl _ | exact List.Sublist.slnil | apply List.Sublist.cons_cons | apply List.Sublist.cons)))
  · rw [List.drop_eq_nil_of_le (by omega), withinF] at hd
    exact ret_b hd
theorem c166 (s t : List Bool) : AFn pr 166 [.row 1 (s.map bc), .row 1 (t.map bc)] [] (.ret (.b (decide (s = t)))) := by
  refine AFn.small fun hs => AFn.of (s166 ?_)
  rw [Smalls, Small, List.length_map] at hs
  have hs := hs.1.1
  unfold A166
  (refine a_lenM ?_; refine a_lenM ?_; refine a_neq ?_)
  refine a_cnd (fun q0 => ?_) (fun q0 => ?_)
  · exact ret_b (decide_eq_false (fun h => q0 (by rw [h]))).symm
  (refine a_lenM ?_)
  refine a_lp (σ := Nat) (fun i => [.i i]) (fun _ => []) (fun i => i ≤ s.length ∧ (s = t ↔ s.drop i = t.drop i)) (fun i => s.length - i) 0 (by first | exact Gl.refl _ _ | exact Gl.drop (by repeat (first | exact List.Sublist.refl _ | exact List.Sublist.slnil | apply List.Sublist.cons_cons | apply List.Sublist.cons))) ⟨Nat.zero_le _, by simp⟩ ?_
  rintro i K ⟨hi, hd⟩ hK
  dsimp only [aix0, aix1, aix2, aix3, aix4, aix5, aix6, aix7, aix8]
  (refine a_lss ?_)
  refine a_cnd (fun q => ?_) (fun q => ?_)
  · have hi1 : i < s.length := by omega
    have hi2 : i < t.length := by omega
    rw [List.drop_eq_getElem_cons hi1, List.drop_eq_getElem_cons hi2, List.cons.injEq] at hd
    refine a_idxM i hi1 ?_
    ((apply a_ld1p; exact rfl))
    refine a_idxM i hi2 ?_
    ((apply a_ld1p; exact rfl); refine a_neqB ?_)
    refine a_cndb (fun q1 => ?_) (fun q1 => ?_)
    · refine ret_b (decide_eq_false (fun h => ?_)).symm
      rw [(hd.1 h).1] at q1
      simp at q1
    · (refine a_add (by first | omega | assumption | decide) (by first | omega | assumption | decide) ?_)
      refine hK (i + 1) _ _ ⟨by omega, ?_⟩ (by omega) (by first | exact Gl.refl _ _ | exact Gl.drop (by repeat (first | exact List.Sublist.refl _ | exact List.Sublist.slnil | apply List.Sublist.cons_cons | apply List.Sublist.cons)))
      rw [hd]
      exact ⟨fun h => h.2, fun h => ⟨by simpa using q1, h⟩⟩
  · rw [List.drop_eq_nil_of_le (by omega), List.drop_eq_nil_of_le (by omega)] at hd
    exact ret_b (decide_eq_true (hd.2 rfl)).symm
end Go.Proofs.YtdalobojhfafbaaGreatDoor
