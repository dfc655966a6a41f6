/- Whole numbers of 128 bits; sums and products that fit, or do not. -/
import Derived.Test.YtlonmopppgadgaaDoorM5
import Derived.Test.YtlonmopppgadgaaDoorW6
import Derived.Laws.Bits64b
import Derived.Laws.Externs
import Derived.Lib.Mul64
set_option maxRecDepth 100000
set_option linter.unusedVariables false
namespace Go.V
open Go
abbrev D.u (n : Nat) : D := .val (.int .u64 (n : Int))
def TW : Nat := 18446744073709551616
theorem u64_wrap (n : Int) : IntKind.u64.wrap n = n % 18446744073709551616 := IntKind.wrap_u64 n
theorem i64_wrap' (n : Int) : IntKind.i64.wrap n = (n + 9223372036854775808) % 18446744073709551616 - 9223372036854775808 := by
  simp [IntKind.wrap, IntKind.bits, IntKind.signed]
  split <;> omega
section
variable {k : D → Prop} {m n : Nat}
theorem a_addU (h0 : m + n < 18446744073709551616) (h : k (.u (m + n))) : aar .add (.u m) (.u n) k := by
  refine V.a_addw ?_
  rw [u64_wrap, show ((m : Int) + n) % 18446744073709551616 = ((m + n : Nat) : Int) by omega]
  exact h
theorem a_mulU (h0 : m * n < 18446744073709551616) (h : k (.u (m * n))) : aar .mul (.u m) (.u n) k := by
  refine V.a_mulw ?_
  have e : ((m : Int) * n) = ((m * n : Nat) : Int) := by rw [Int.natCast_mul]
  rw [u64_wrap, e, show ((m * n : Nat) : Int) % 18446744073709551616 = ((m * n : Nat) : Int) by omega]
  exact h
theorem a_mulUw (h : k (.u (m * n % 18446744073709551616))) : aar .mul (.u m) (.u n) k := by
  refine V.a_mulw ?_
  have e : ((m : Int) * n) = ((m * n : Nat) : Int) := by rw [Int.natCast_mul]
  rw [u64_wrap, e, show ((m * n : Nat) : Int) % 18446744073709551616 = ((m * n % 18446744073709551616 : Nat) : Int) by omega]
  exact h
theorem a_low (h0 : m < 18446744073709551616) (h : k (.u (m % 4294967296))) : aar .and (.u m) (.val (.int .u64 4294967295)) k := by
  show _ ∧ k (.val (.int .u64 (bitsI .and .u64 (m : Int) ((4294967295 : Nat) : Int))))
  have h1 : (BitVec.ofInt 64 (m : Int)).toNat = m := by
    rw [BitVec.ofInt_natCast, BitVec.toNat_ofNat]; exact Nat.mod_eq_of_lt (by omega)
  have h2 : (BitVec.ofInt 64 ((4294967295 : Nat) : Int)).toNat = 4294967295 := by
    rw [BitVec.ofInt_natCast, BitVec.toNat_ofNat]
  have h3 : m &&& 4294967295 = m % 4294967296 := Nat.and_two_pow_sub_one_eq_mod m 32
  have e : bitsI .and .u64 (m : Int) ((4294967295 : Nat) : Int) = ((m % 4294967296 : Nat) : Int) := by
    show IntKind.u64.wrap ((BitVec.ofInt 64 (m : Int) &&& BitVec.ofInt 64 ((4294967295 : Nat) : Int)).toNat : Int) = _
    rw [BitVec.toNat_and, h1, h2, h3, u64_wrap]
    omega
  rw [e]
  exact ⟨rfl, h⟩
theorem a_shr32 (h : k (.u (m / 4294967296))) : aar .shr (.u m) (.val (.int .u64 32)) k := by
  show _ ∧ k (.val (.int .u64 ((m : Int).fdiv (2 ^ 32))))
  have e : (m : Int).fdiv (2 ^ 32) = ((m / 4294967296 : Nat) : Int) := by
    rw [Int.fdiv_eq_ediv_of_nonneg _ (by decide)]
    omega
  rw [e]
  exact ⟨by decide, h⟩
end
/-- a sign, and a size -/
def wd (s : Bool) (n : Nat) : D := .agg [.b s, .u (n / 18446744073709551616), .u (n % 18446744073709551616)]
def wcs (s : Bool) (n : Nat) : List D := [.b s, .u (n / 18446744073709551616), .u (n % 18446744073709551616)]
def wval (s : Bool) (n : Nat) : Int := bif s then -(n : Int) else n
def fitI (v : Int) : Int := bif inI v then v else 0
theorem inI_eq (v : Int) : inI v = decide (-9223372036854775808 ≤ v ∧ v ≤ 9223372036854775807) := by simp [inI]
theorem inI_iff {v : Int} : inI v = true ↔ -9223372036854775808 ≤ v ∧ v ≤ 9223372036854775807 := by simp [inI]
def addW (s : Bool) (n : Nat) (s' : Bool) (n' : Nat) : Bool × Nat :=
  if s = s' then (s, n + n') else if n < n' then (s', n' - n) else (s, n - n')
theorem addW_val (s : Bool) (n : Nat) (s' : Bool) (n' : Nat) : wval (addW s n s' n').1 (addW s n s' n').2 = wval s n + wval s' n' := by
  unfold addW wval
  cases s <;> cases s' <;> simp <;> first | omega | (split <;> simp <;> omega)
end Go.V
namespace Go.Proofs.YtlonmopppgadgaaDoor
open Go Go.V
theorem small_i {n : Int} : Small (.i n) ↔ -9223372036854775808 ≤ n ∧ n ≤ 9223372036854775807 := by
  rw [Small]
  simp [Okv, loN, hiN]
theorem c158 (a : Int) : AFn pr 158 [.i a] [] (.ret (.u a.natAbs)) := by
  refine AFn.small fun hs => AFn.of (s158 ?_)
  rw [Smalls, small_i] at hs
  obtain ⟨⟨h1, h2⟩, _⟩ := hs
  unfold A158
  (refine a_lss ?_)
  refine a_cnd (fun h => ?_) (fun h => ?_)
  · refine a_cvI ?_
    show AE.ret _ = _
    congr 3
    rw [u64_wrap, u64_wrap]
    omega
  · refine a_cvI ?_
    show AE.ret _ = _
    congr 3
    rw [u64_wrap]
    omega
theorem c157 {x y : Nat} (hx : x < 18446744073709551616) (hy : y < 18446744073709551616) : AFn pr 157 [.u x, .u y] [] (.ret (.tuple [.u (x * y / 18446744073709551616), .u (x * y % 18446744073709551616)])) := by
  refine AFn.of (s157 ?_)
  unfold A157
  obtain ⟨h1, h2, h3, h4⟩ := Lib.mul64_hi x y hx hy
  have hq : ∀ z : Nat, z < 18446744073709551616 → z / 4294967296 < 4294967296 := fun z hz => by omega
  have ha : (x / 4294967296) * (y / 4294967296) ≤ 18446744065119617025 := Lib.half_mul_le (by omega) (by omega)
  have hb : (x / 4294967296) * (y % 4294967296) ≤ 18446744065119617025 := Lib.half_mul_le (by omega) (by omega)
  have hc : (x % 4294967296) * (y / 4294967296) ≤ 18446744065119617025 := Lib.half_mul_le (by omega) (by omega)
  refine a_low hx (a_shr32 (a_low hy (a_shr32 (a_mulU (by omega) (a_mulU (by omega) (a_shr32 (a_addU h2 (a_low h2 (a_shr32 (a_mulU (by omega) (a_addU h3 (a_mulU (by omega) (a_addU (by omega) (a_shr32 (a_addU (by omega) (a_mulUw ?_))))))))))))))))
  show AE.ret _ = _
  rw [h4]
theorem repsU3 {F : Nat → Prop} {w : World} {x y c : Nat} {vs : List Value} (hr : Reps F w [.u x, .u y, .u c] vs) : vs = [.int .u64 (x : Int), .int .u64 (y : Int), .int .u64 (c : Int)] := by
  rw [Reps] at hr
  obtain ⟨v, r, rfl, h1, h2⟩ := hr
  rw [Reps] at h2
  obtain ⟨v2, r2, rfl, h3, h4⟩ := h2
  obtain ⟨u, rfl, h5⟩ := h4.one
  rw [(rep_val_iff.1 h1).1, (rep_val_iff.1 h3).1, (rep_val_iff.1 h5).1]
theorem repU {F : Nat → Prop} {w : World} {x : Nat} (h : x < 18446744073709551616) : Rep F w (.u x) (.int .u64 (x : Int)) := rep_val (by simp only [Okv, loN, hiN]; omega)
theorem repU2 {F : Nat → Prop} {w : World} {x y : Nat} (h : x < 18446744073709551616) (h' : y < 18446744073709551616) : Rep F w (.tuple [.u x, .u y]) (.tuple #[.int .u64 (x : Int), .int .u64 (y : Int)]) := by
  rw [Rep]
  exact ⟨_, rfl, reps_cons (repU h) (reps_cons (repU h') reps_nil)⟩
theorem runExt {f : FuncId} {fn : Func} {e : Array Value → Sem Value} (hf : pr.funcs[f]? = some fn) (hname : (fn.name == "runtime.NumGoroutine") = false) (hb : fn.body.isNone = true) (hn : Extern.findNext fn = none) (he : Extern.find fn = some e)
    {args : Array Value} {w : World} {v : Value} (h : (e args).run pr w = .ok v w) : (callFunc f args).run pr w = .ok (.value v) w := by
  rw [run_callFunc_extern hf hname hb hn he, h]; rfl
def sub64Entry : Array Value → Sem Value := fun args => do
  let (x, y, b) ← Extern.MathBitsCarry.three "Sub64" args
  pure (Extern.MathBitsCarry.pair ((x + Extern.MathBitsCarry.m64 - y - b) % Extern.MathBitsCarry.m64) (if x < y + b then 1 else 0))
theorem run_sub64 {P : Program} (x y b : Nat) (hb : b ≤ 1) (w : World) :
    (sub64Entry #[.int .u64 (x : Int), .int .u64 (y : Int), .int .u64 (b : Int)]).run P w =
      .ok (.tuple #[.int .u64 (((x + 18446744073709551616 - y - b) % 18446744073709551616 : Nat) : Int), .int .u64 ((if x < y + b then 1 else 0 : Nat) : Int)]) w := by
  have : b = 0 ∨ b = 1 := by omega
  rcases this with rfl | rfl <;> rfl
theorem c159 {x y c : Nat} (hx : x < 18446744073709551616) (hy : y < 18446744073709551616) (hc : c ≤ 1) : AFn pr 159 [.u x, .u y, .u c] [] (.ret (.tuple [.u ((x + y + c) % 18446744073709551616), .u ((x + y + c) / 18446744073709551616)])) := by
  refine AFn.ofExtern fun F w vs hr => ?_
  obtain rfl := repsU3 hr
  refine ⟨_, runExt Tryd.func159 (by decide) (by kernel_rfl) (by kernel_rfl) (e := add64Entry) (by kernel_rfl) (run_add64 x y c (by omega) (by omega) (by omega) (by omega) w), ?_⟩
  have e1 : ((x : Int) + y + c) % 18446744073709551616 = (((x + y + c) % 18446744073709551616 : Nat) : Int) := by omega
  have e2 : ((x : Int) + y + c) / 18446744073709551616 = (((x + y + c) / 18446744073709551616 : Nat) : Int) := by omega
  rw [e1, e2]
  exact repU2 (by omega) (by omega)
theorem c161 {x y c : Nat} (hx : x < 18446744073709551616) (hy : y < 18446744073709551616) (hc : c ≤ 1) : AFn pr 161 [.u x, .u y, .u c] [] (.ret (.tuple [.u ((x + 18446744073709551616 - y - c) % 18446744073709551616), .u (if x < y + c then 1 else 0)])) := by
  refine AFn.ofExtern fun F w vs hr => ?_
  obtain rfl := repsU3 hr
  refine ⟨_, runExt Tryd.func161 (by decide) (by kernel_rfl) (by kernel_rfl) (e := sub64Entry) (by kernel_rfl) (run_sub64 x y c hc w), ?_⟩
  exact repU2 (by omega) (by split <;> omega)
theorem wd_eq (s : Bool) (n : Nat) : wd s n = .agg (wcs s n) := rfl
theorem c143 (a b : Int) : AFn pr 143 [.i a, .i b] [] (.ret (wd (decide (a < 0) != decide (b < 0)) (a.natAbs * b.natAbs))) := by
  refine AFn.small fun hs => AFn.of (s143 ?_)
  rw [Smalls, Smalls, small_i, small_i] at hs
  obtain ⟨⟨h1, h2⟩, ⟨h3, h4⟩, _⟩ := hs
  unfold A143
  (refine a_bx fun z1 => ?_; refine a_call0 (c158 _) ?_; refine a_call0 (c158 _) ?_; refine a_call0 (c157 (by first | omega | assumption | decide) (by first | omega | assumption | decide)) ?_; (apply a_ext; exact rfl); (apply a_ext; exact rfl); refine a_lss ?_; refine a_lss ?_; refine a_neqB ?_; (apply a_bld _; exact rfl; (try dsimp only [afill, aparts, cl, chunk, List.take, List.drop, List.nil_append, List.cons_append, List.append_nil, List.length_cons, List.length_nil, Nat.zero_add, Nat.reduceAdd, Nat.reduceMul]); try exact rfl); refine a_stA 0 rfl rfl rfl rfl ?_; (apply a_ldA 0; exact rfl; exact rfl))
  rfl
theorem c144 (a : Int) : AFn pr 144 [.i a] [] (.ret (wd (decide (a < 0)) a.natAbs)) := by
  refine AFn.small fun hs => AFn.of (s144 ?_)
  rw [Smalls, small_i] at hs
  obtain ⟨⟨h1, h2⟩, _⟩ := hs
  unfold A144
  (refine a_bx fun z1 => ?_; refine a_lss ?_; refine a_call0 (c158 _) ?_; (apply a_bld _; exact rfl; (try dsimp only [afill, aparts, cl, chunk, List.take, List.drop, List.nil_append, List.cons_append, List.append_nil, List.length_cons, List.length_nil, Nat.zero_add, Nat.reduceAdd, Nat.reduceMul]); try exact rfl); refine a_stA 0 rfl rfl rfl rfl ?_; (apply a_ldA 0; exact rfl; exact rfl))
  unfold wd
  rw [show a.natAbs / 18446744073709551616 = 0 by omega, show a.natAbs % 18446744073709551616 = a.natAbs by omega]
  rfl
theorem c146 (s : Bool) (n : Nat) : AFn pr 146 [wd s n] [] (.ret (wd (!s) n)) := by
  refine AFn.of (s146 ?_)
  unfold A146 wd
  (refine a_bxv fun z1 => ?_; refine a_bx fun z2 => ?_; refine a_fld ?_; (apply a_ld1 1; exact rfl; exact rfl); refine a_not ?_; refine a_fld ?_; (apply a_ld1 1; exact rfl; exact rfl); refine a_fld ?_; (apply a_ld1 1; exact rfl; exact rfl); (apply a_bld _; exact rfl; (try dsimp only [afill, aparts, cl, chunk, List.take, List.drop, List.nil_append, List.cons_append, List.append_nil, List.length_cons, List.length_nil, Nat.zero_add, Nat.reduceAdd, Nat.reduceMul]); try exact rfl); refine a_stA 0 rfl rfl rfl rfl ?_; (apply a_ldA 0; exact rfl; exact rfl))
  rfl
theorem c160 (s s' : Bool) (n n' : Nat) : AFn pr 160 [wd s n, wd s' n'] [] (.ret (.b (decide (n < n')))) := by
  refine AFn.of (s160 ?_)
  unfold A160 wd
  (refine a_bxv fun z1 => ?_; refine a_bxv fun z2 => ?_; refine a_fld ?_; (apply a_ld1 1; exact rfl; exact rfl); refine a_fld ?_; (apply a_ld1 0; exact rfl; exact rfl); refine a_lss ?_)
  refine a_cnd (fun h => ?_) (fun h => ?_)
  · exact ret_b (decide_eq_true (by omega)).symm
  (refine a_fld ?_; (apply a_ld1 1; exact rfl; exact rfl); refine a_fld ?_; (apply a_ld1 0; exact rfl; exact rfl); refine a_eql ?_)
  refine V.a_jn (σ := Bool) (fun b => [.b b]) (fun _ => []) (fun b => b = decide (n < n')) ?_ fun J hJ => ?_
  · rintro b rfl
    rfl
  refine a_cnd (fun h2 => ?_) (fun h2 => ?_)
  · (refine a_fld ?_; (apply a_ld1 1; exact rfl; exact rfl); refine a_fld ?_; (apply a_ld1 0; exact rfl; exact rfl); refine a_lss ?_)
    exact hJ (decide ((n % 18446744073709551616 : Nat) < ((n' % 18446744073709551616 : Nat) : Int))) _ _ (decide_eq_decide.2 (by omega)) (by first | exact Gl.refl _ _ | exact Gl.drop (by repeat (first | exact List.Sublist.refl _ | exact List.Sublist.slnil | apply List.Sublist.cons_cons | apply List.Sublist.cons)))
  · exact hJ false _ _ (decide_eq_false (by omega)).symm (by first | exact Gl.refl _ _ | exact Gl.drop (by repeat (first | exact List.Sublist.refl _ | exact List.Sublist.slnil | apply List.Sublist.cons_cons | apply List.Sublist.cons)))
theorem wd_of {s s' : Bool} {h l n : Nat} (e1 : s = s') (e2 : h = n / 18446744073709551616) (e3 : l = n % 18446744073709551616) : D.agg [.b s, .u h, .u l] = wd s' n := by rw [e1, e2, e3]; rfl
theorem c145 (s s' : Bool) (n n' : Nat) (hn : n + n' < 340282366920938463463374607431768211456) : AFn pr 145 [wd s n, wd s' n'] [] (.ret (wd (addW s n s' n').1 (addW s n s' n').2)) := by
  refine AFn.of (s145 ?_)
  unfold A145 wd
  refine a_bxv fun z1 => ?_
  refine a_bxv fun z2 => ?_
  refine a_bx fun z3 => ?_
  (refine a_fld ?_; (apply a_ld1 2; exact rfl; exact rfl); refine a_fld ?_; (apply a_ld1 1; exact rfl; exact rfl); refine a_eqlB ?_)
  refine a_cndb (fun h => ?_) (fun h => ?_)
  · obtain rfl : s = s' := by simpa using h
    have ha : addW s n s n' = (s, n + n') := by unfold addW; rw [if_pos rfl]
    rw [ha]
    have hc : (n % 18446744073709551616 + n' % 18446744073709551616 + 0) / 18446744073709551616 ≤ 1 := by omega
    (refine a_fld ?_; (apply a_ld1 2; exact rfl; exact rfl); refine a_fld ?_; (apply a_ld1 1; exact rfl; exact rfl); refine a_call0 (c159 (by first | omega | assumption | decide) (by first | omega | assumption | decide) (by first | omega | assumption | decide)) ?_; (apply a_ext; exact rfl); (apply a_ext; exact rfl); refine a_fld ?_; (apply a_ld1 2; exact rfl; exact rfl); refine a_fld ?_; (apply a_ld1 1; exact rfl; exact rfl); refine a_call0 (c159 (by first | omega | assumption | decide) (by first | omega | assumption | decide) (by first | omega | assumption | decide)) ?_; (apply a_ext; exact rfl); (apply a_ext; exact rfl); refine a_fld ?_; (apply a_ld1 2; exact rfl; exact rfl); (apply a_bld _; exact rfl; (try dsimp only [afill, aparts, cl, chunk, List.take, List.drop, List.nil_append, List.cons_append, List.append_nil, List.length_cons, List.length_nil, Nat.zero_add, Nat.reduceAdd, Nat.reduceMul]); try exact rfl); refine a_stA 0 rfl rfl rfl rfl ?_; (apply a_ldA 0; exact rfl; exact rfl))
    exact congrArg AE.ret (wd_of (h := (n / 18446744073709551616 + n' / 18446744073709551616 + (n % 18446744073709551616 + n' % 18446744073709551616 + 0) / 18446744073709551616) % 18446744073709551616) (l := (n % 18446744073709551616 + n' % 18446744073709551616 + 0) % 18446744073709551616) rfl (by omega) (by omega))
  · have hne : s ≠ s' := by simpa using h
    have ha : addW s n s' n' = if n < n' then (s', n' - n) else (s, n - n') := by unfold addW; rw [if_neg hne]
    refine V.a_jn (σ := Bool × Nat × Bool × Nat) (fun _ => []) (fun x => [⟨z3, [.b false, .u 0, .u 0], .box⟩, ⟨z2, wcs x.2.2.1 x.2.2.2, .box⟩, ⟨z1, wcs x.1 x.2.1, .box⟩]) (fun x => x.2.2.2 ≤ x.2.1 ∧ x.2.1 < 340282366920938463463374607431768211456 ∧ addW s n s' n' = (x.1, x.2.1 - x.2.2.2)) ?_ fun J hJ => ?_
    · rintro ⟨t, m, t', m'⟩ ⟨h1, h2, h3⟩
      simp only at h1 h2 h3 ⊢
      rw [h3]
      unfold wcs
      (refine a_fld ?_; (apply a_ld1 2; exact rfl; exact rfl); refine a_fld ?_; (apply a_ld1 1; exact rfl; exact rfl); refine a_call0 (c161 (by first | omega | assumption | decide) (by first | omega | assumption | decide) (by first | omega | assumption | decide)) ?_; (apply a_ext; exact rfl); (apply a_ext; exact rfl); refine a_fld ?_; (apply a_ld1 2; exact rfl; exact rfl); refine a_fld ?_; (apply a_ld1 1; exact rfl; exact rfl))
      refine a_call0 (c161 (x := m / 18446744073709551616) (y := m' / 18446744073709551616) (by omega) (by omega) (by split <;> omega)) ?_
      ((apply a_ext; exact rfl); (apply a_ext; exact rfl); refine a_fld ?_; (apply a_ld1 2; exact rfl; exact rfl); (apply a_bld _; exact rfl; (try dsimp only [afill, aparts, cl, chunk, List.take, List.drop, List.nil_append, List.cons_append, List.append_nil, List.length_cons, List.length_nil, Nat.zero_add, Nat.reduceAdd, Nat.reduceMul]); try exact rfl); refine a_stA 0 rfl rfl rfl rfl ?_; (apply a_ldA 0; exact rfl; exact rfl))
      refine congrArg AE.ret (wd_of rfl ?_ ?_)
      · split <;> omega
      · omega
    · ((apply a_ldA 2; exact rfl; exact rfl); (apply a_ldA 1; exact rfl; exact rfl); refine a_call0 (c160 _ _ _ _) ?_)
      refine a_cnd (fun h1 => ?_) (fun h1 => ?_)
      · ((apply a_ldA 1; exact rfl; exact rfl); (apply a_ldA 2; exact rfl; exact rfl); refine a_stA 2 rfl rfl rfl rfl ?_; refine a_stA 1 rfl rfl rfl rfl ?_)
        exact hJ (s', n', s, n) _ _ ⟨by simp only; omega, by simp only; omega, by rw [ha, if_pos h1]⟩ (by first | exact Gl.refl _ _ | exact Gl.drop (by repeat (first | exact List.Sublist.refl _ | exact List.Sublist.slnil | apply List.Sublist.cons_cons | apply List.Sublist.cons)))
      · exact hJ (s, n, s', n') _ _ ⟨by simp only; omega, by simp only; omega, by rw [ha, if_neg h1]⟩ (by first | exact Gl.refl _ _ | exact Gl.drop (by repeat (first | exact List.Sublist.refl _ | exact List.Sublist.slnil | apply List.Sublist.cons_cons | apply List.Sublist.cons)))
theorem c156 (s : Bool) (n : Nat) (hn : n < 340282366920938463463374607431768211456) : AFn pr 156 [wd s n] [] (bif inI (wval s n) then .ret (.i (wval s n)) else .pan (.ifc 182 (.agg []))) := by
  refine AFn.of (s156 ?_)
  unfold A156 wd
  refine a_bxv fun z1 => ?_
  have hsi : ((18446744073709551616 : Nat) : Int) = 18446744073709551616 := rfl
  refine V.a_jn (σ := Bool) (fun b => [.b b]) (fun _ => [⟨z1, wcs s n, .box⟩]) (fun b => b = !inI (wval s n)) ?_ fun J hJ => ?_
  · rintro b rfl
    unfold wcs
    refine a_cndb (fun h => ?_) (fun h => ?_)
    · simp only [Bool.not_eq_true'] at h
      rw [h]
      ((apply a_bld _; exact rfl; (try dsimp only [afill, aparts, cl, chunk, List.take, List.drop, List.nil_append, List.cons_append, List.append_nil, List.length_cons, List.length_nil, Nat.zero_add, Nat.reduceAdd, Nat.reduceMul]); try exact rfl))
    · simp only [Bool.not_eq_false'] at h
      rw [h]
      simp only [cond_true]
      (refine a_fld ?_; (apply a_ld1 0; exact rfl; exact rfl))
      unfold wval at h ⊢
      rw [inI_iff] at h
      refine a_cndb (fun hs => ?_) (fun hs => ?_)
      · subst hs
        simp only [cond_true] at h ⊢
        (refine a_fld ?_; (apply a_ld1 0; exact rfl; exact rfl))
        refine a_negw ?_
        refine a_cvI ?_
        show AE.ret _ = _
        congr 3
        rw [u64_wrap, i64_wrap']
        omega
      · subst hs
        simp only [cond_false] at h ⊢
        (refine a_fld ?_; (apply a_ld1 0; exact rfl; exact rfl); refine a_cv64 (by first | omega | assumption | decide) (by first | omega | assumption | decide) ?_)
        exact ret_i (by omega)
  · (refine a_fld ?_; (apply a_ld1 0; exact rfl; exact rfl); refine a_gtr ?_)
    have ht : (-9223372036854775808 ≤ wval s n ∧ wval s n ≤ 9223372036854775807) ↔ (n < 9223372036854775808 ∨ (n = 9223372036854775808 ∧ s = true)) := by
      unfold wval
      cases s
      · simp; omega
      · simp; omega
    have hw : inI (wval s n) = decide (n < 9223372036854775808 ∨ (n = 9223372036854775808 ∧ s = true)) := by rw [inI_eq]; exact decide_eq_decide.2 ht
    refine a_cnd (fun h1 => ?_) (fun h1 => ?_)
    · refine hJ true _ _ ?_ (by first | exact Gl.refl _ _ | exact Gl.drop (by repeat (first | exact List.Sublist.refl _ | exact List.Sublist.slnil | apply List.Sublist.cons_cons | apply List.Sublist.cons)))
      rw [hw, decide_eq_false (by omega)]; rfl
    (refine a_fld ?_; (apply a_ld1 0; exact rfl; exact rfl); refine a_gtr ?_)
    refine a_cnd (fun h2 => ?_) (fun h2 => ?_)
    · refine hJ true _ _ ?_ (by first | exact Gl.refl _ _ | exact Gl.drop (by repeat (first | exact List.Sublist.refl _ | exact List.Sublist.slnil | apply List.Sublist.cons_cons | apply List.Sublist.cons)))
      rw [hw, decide_eq_false (by omega)]; rfl
    (refine a_fld ?_; (apply a_ld1 0; exact rfl; exact rfl); refine a_eql ?_)
    refine V.a_jn (σ := Bool) (fun b => [.b b]) (fun _ => [⟨z1, wcs s n, .box⟩]) (fun b => b = !inI (wval s n)) ?_ fun J2 hJ2 => ?_
    · rintro b hb
      exact hJ b _ _ hb (by first | exact Gl.refl _ _ | exact Gl.drop (by repeat (first | exact List.Sublist.refl _ | exact List.Sublist.slnil | apply List.Sublist.cons_cons | apply List.Sublist.cons)))
    refine a_cnd (fun h3 => ?_) (fun h3 => ?_)
    · (refine a_fld ?_; (apply a_ld1 0; exact rfl; exact rfl); refine a_not ?_)
      refine hJ2 (!s) _ _ ?_ (by first | exact Gl.refl _ _ | exact Gl.drop (by repeat (first | exact List.Sublist.refl _ | exact List.Sublist.slnil | apply List.Sublist.cons_cons | apply List.Sublist.cons)))
      rw [hw]
      cases s
      · rw [decide_eq_false (by simp; omega)]
      · rw [decide_eq_true (.inr ⟨by omega, rfl⟩)]
    · refine hJ2 false _ _ ?_ (by first | exact Gl.refl _ _ | exact Gl.drop (by repeat (first | exact List.Sublist.refl _ | exact List.Sublist.slnil | apply List.Sublist.cons_cons | apply List.Sublist.cons)))
      rw [hw, decide_eq_true (.inl (by omega))]; rfl
theorem c166n {b b' : Nat} {L : List Bx} : ADef pr 166 [.p b 0, .p b' 0] none L (fun m' L' => m' = none ∧ L' = L) := by
  refine s166 ?_
  unfold A166
  exact ⟨rfl, rfl⟩
theorem c166p {b b' : Nat} {x y : D} : ADef pr 166 [.p b 0, .p b' 0] (some (.ifc 182 (.agg []))) [⟨b', [y], .box⟩, ⟨b, [x], .box⟩] (fun m' L' => m' = none ∧ ∃ M, L' = M ++ [⟨b', [.b false], .box⟩, ⟨b, [.i 0], .box⟩]) := by
  refine s166 ?_
  unfold A166
  refine a_eqIh ?_
  refine a_cndbF rfl ?_
  refine a_tasT ?_
  ((apply a_ext; exact rfl); (apply a_ext; exact rfl); refine a_cndbT rfl ?_; refine a_bx fun z1 => ?_; refine a_st0 0 rfl (Nat.zero_le _) ?_; (apply a_st 2 _; exact rfl; exact rfl; exact rfl; exact rfl; (try dsimp only [afill, aparts, cl, chunk, List.take, List.drop, List.nil_append, List.cons_append, List.append_nil, List.length_cons, List.length_nil, Nat.zero_add, Nat.reduceAdd, Nat.reduceMul]); try exact rfl); refine a_stA 1 rfl rfl rfl rfl ?_)
  exact ⟨rfl, [_], rfl⟩
theorem c155 (s : Bool) (n : Nat) (hn : n < 340282366920938463463374607431768211456) : AFn pr 155 [.fn 156 [wd s n] []] [] (.ret (.tuple [.i (fitI (wval s n)), .b (inI (wval s n))])) := by
  refine AFn.of (s155 ?_)
  unfold A155
  refine a_bx fun z1 => ?_
  refine a_bx fun z2 => ?_
  refine a_cfW ?_
  have hc := c156 s n hn
  unfold fitI
  cases hi : inI (wval s n) with
  | true =>
    rw [hi] at hc
    refine a_call0 hc ?_
    ((apply a_st 1 _; exact rfl; exact rfl; exact rfl; exact rfl; (try dsimp only [afill, aparts, cl, chunk, List.take, List.drop, List.nil_append, List.cons_append, List.append_nil, List.length_cons, List.length_nil, Nat.zero_add, Nat.reduceAdd, Nat.reduceMul]); try exact rfl); refine a_stA 0 rfl rfl rfl rfl ?_)
    refine ADef.mono c166n ?_
    rintro m' L' ⟨rfl, rfl⟩
    refine a_end ?_
    ((apply a_ld1 1; exact rfl; exact rfl); (apply a_ld1 0; exact rfl; exact rfl))
    rfl
  | false =>
    rw [hi] at hc
    refine a_call (ae := .pan _) (AFn.frame hc) ?_
    refine ADef.mono c166p ?_
    rintro m' L' ⟨rfl, M, rfl⟩
    refine a_end ?_
    refine a_ld1 (l := [.i 0]) (kd := .box) (M.length + 1) (by simp) rfl ?_
    refine a_ld1 (l := [.b false]) (kd := .box) M.length (by simp) rfl ?_
    rfl
theorem c142 (s : Bool) (n : Nat) (hn : n < 340282366920938463463374607431768211456) : AFn pr 142 [wd s n] [] (.ret (.tuple [.i (fitI (wval s n)), .b (inI (wval s n))])) := by
  refine AFn.of (s142 ?_)
  unfold A142
  unfold wd
  (refine a_bxv fun z1 => ?_; (apply a_ldA 0; exact rfl; exact rfl); refine a_call0 (c155 _ _ (by first | omega | assumption | decide)) ?_; (apply a_ext; exact rfl); (apply a_ext; exact rfl))
  rfl
theorem natAbs_bound {a : Int} (h : -9223372036854775808 ≤ a ∧ a ≤ 9223372036854775807) : a.natAbs ≤ 9223372036854775808 := by omega
theorem wval_of (a : Int) : wval (decide (a < 0)) a.natAbs = a := by
  unfold wval
  by_cases h : a < 0
  · rw [decide_eq_true h]; simp only [cond_true]; omega
  · rw [decide_eq_false h]; simp only [cond_false]; omega
theorem c122 (a b : Int) : AFn pr 122 [.i a, .i b] [] (.ret (.tuple [.i (fitI (a + b)), .b (inI (a + b))])) := by
  refine AFn.small fun hs => AFn.of (s122 ?_)
  rw [Smalls, Smalls, small_i, small_i] at hs
  have h1 := natAbs_bound hs.1
  have h2 := natAbs_bound hs.2.1
  have hv := addW_val (decide (a < 0)) a.natAbs (decide (b < 0)) b.natAbs
  rw [wval_of, wval_of] at hv
  have hb : (addW (decide (a < 0)) a.natAbs (decide (b < 0)) b.natAbs).2 < 340282366920938463463374607431768211456 := by
    unfold addW; split
    · simp only; omega
    · split <;> (simp only; omega)
  unfold A122
  (refine a_call0 (c144 _) ?_; refine a_call0 (c144 _) ?_; refine a_call0 (c145 _ _ _ _ (by first | omega | assumption | decide)) ?_; refine a_call0 (c142 _ _ (by first | omega | assumption | decide)) ?_; (apply a_ext; exact rfl); (apply a_ext; exact rfl))
  rw [← hv]
theorem c123 (a b : Int) : AFn pr 123 [.i a, .i b] [] (.ret (.tuple [.i (fitI (a - b)), .b (inI (a - b))])) := by
  refine AFn.small fun hs => AFn.of (s123 ?_)
  rw [Smalls, Smalls, small_i, small_i] at hs
  have h1 := natAbs_bound hs.1
  have h2 := natAbs_bound hs.2.1
  have hv := addW_val (decide (a < 0)) a.natAbs (!decide (b < 0)) b.natAbs
  have hnb : wval (!decide (b < 0)) b.natAbs = -b := by
    have := wval_of b
    unfold wval at this ⊢
    cases hd : decide (b < 0) <;> rw [hd] at this <;> simp at this ⊢ <;> omega
  rw [wval_of, hnb] at hv
  have hv' : wval (addW (decide (a < 0)) a.natAbs (!decide (b < 0)) b.natAbs).1 (addW (decide (a < 0)) a.natAbs (!decide (b < 0)) b.natAbs).2 = a - b := by rw [hv]; omega
  have hb : (addW (decide (a < 0)) a.natAbs (!decide (b < 0)) b.natAbs).2 < 340282366920938463463374607431768211456 := by
    unfold addW; split
    · simp only; omega
    · split <;> (simp only; omega)
  unfold A123
  (refine a_call0 (c144 _) ?_; refine a_call0 (c144 _) ?_; refine a_call0 (c146 _ _) ?_; refine a_call0 (c145 _ _ _ _ (by first | omega | assumption | decide)) ?_; refine a_call0 (c142 _ _ (by first | omega | assumption | decide)) ?_; (apply a_ext; exact rfl); (apply a_ext; exact rfl))
  rw [← hv']
theorem c121 (a b : Int) : AFn pr 121 [.i a, .i b] [] (.ret (.tuple [.i (fitI (a * b)), .b (inI (a * b))])) := by
  refine AFn.small fun hs => AFn.of (s121 ?_)
  rw [Smalls, Smalls, small_i, small_i] at hs
  have h1 := natAbs_bound hs.1
  have h2 := natAbs_bound hs.2.1
  have hb : a.natAbs * b.natAbs < 340282366920938463463374607431768211456 := Nat.lt_of_le_of_lt (Nat.mul_le_mul h1 h2) (by decide)
  have hv : wval (decide (a < 0) != decide (b < 0)) (a.natAbs * b.natAbs) = a * b := by
    unfold wval
    rw [Int.natCast_mul]
    by_cases ha : a < 0 <;> by_cases hb : b < 0
    · rw [decide_eq_true ha, decide_eq_true hb, show (a.natAbs : Int) = -a by omega, show (b.natAbs : Int) = -b by omega]
      simp [Int.neg_mul_neg]
    · rw [decide_eq_true ha, decide_eq_false hb, show (a.natAbs : Int) = -a by omega, show (b.natAbs : Int) = b by omega]
      simp [Int.neg_mul]
    · rw [decide_eq_false ha, decide_eq_true hb, show (a.natAbs : Int) = a by omega, show (b.natAbs : Int) = -b by omega]
      simp [Int.mul_neg]
    · rw [decide_eq_false ha, decide_eq_false hb, show (a.natAbs : Int) = a by omega, show (b.natAbs : Int) = b by omega]
      simp
  unfold A121
  (refine a_call0 (c143 _ _) ?_; refine a_call0 (c142 _ _ (by first | omega | assumption | decide)) ?_; (apply a_ext; exact rfl); (apply a_ext; exact rfl))
  rw [← hv]
end Go.Proofs.YtlonmopppgadgaaDoor
