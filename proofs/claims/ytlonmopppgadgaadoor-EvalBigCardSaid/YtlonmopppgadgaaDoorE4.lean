/- A number that is too large is never told as another one. -/
import Derived.Test.YtlonmopppgadgaaDoorE3
set_option maxRecDepth 100000
set_option linter.unusedVariables false
namespace Go.V
def wr (n : Int) : Int := IntKind.i64.wrap n
theorem wr_eq (n : Int) : wr n = (n + 9223372036854775808) % 18446744073709551616 - 9223372036854775808 := i64_wrap' n
theorem wr_in {n : Int} (h : inI n = true) : wr n = n := by rw [inI_iff] at h; rw [wr_eq]; omega
/-- a product, by a quotient -/
theorem mul_flag {a b : Int} (ha : -9223372036854775808 ≤ a ∧ a ≤ 9223372036854775807) (hb : -9223372036854775808 ≤ b ∧ b ≤ 9223372036854775807) (h0 : b ≠ 0) :
    inI (a * b) = (decide (wr ((wr (a * b)).tdiv b) = a) && !(decide (a = -1) && decide (b = -9223372036854775808)) && !(decide (b = -1) && decide (a = -9223372036854775808))) := by
  by_cases hi : inI (a * b) = true
  · rw [hi]
    have hm := inI_iff.1 hi
    rw [wr_in hi, Int.mul_tdiv_cancel _ h0, wr_in (inI_iff.2 ha)]
    have h1 : ¬ (a = -1 ∧ b = -9223372036854775808) := by rintro ⟨rfl, rfl⟩; omega
    have h2 : ¬ (b = -1 ∧ a = -9223372036854775808) := by rintro ⟨rfl, rfl⟩; omega
    simp only [decide_true, Bool.true_and]
    rw [← Bool.decide_and, ← Bool.decide_and, decide_eq_false h1, decide_eq_false h2]
    rfl
  · rw [Bool.not_eq_true] at hi
    rw [hi]
    symm
    rw [Bool.and_eq_false_iff, Bool.and_eq_false_iff]
    by_cases h2 : b = -1 ∧ a = -9223372036854775808
    · right
      rw [decide_eq_true h2.1, decide_eq_true h2.2]; rfl
    · left; left
      rw [decide_eq_false_iff_not]
      intro hq
      have hc := wr_eq (a * b)
      generalize wr (a * b) = c at hq hc
      have hcr : -9223372036854775808 ≤ c ∧ c ≤ 9223372036854775807 := by omega
      have hdiv : c.tdiv b = a := by
        have hne : ¬ (b = -1 ∧ c = -9223372036854775808) := by
          rintro ⟨rfl, rfl⟩
          apply h2
          refine ⟨rfl, ?_⟩
          rw [← hq]
          decide
        have hrange : -9223372036854775808 ≤ c.tdiv b ∧ c.tdiv b ≤ 9223372036854775807 := by
          have h3 : (c.tdiv b).natAbs = c.natAbs / b.natAbs := Int.natAbs_tdiv c b
          have h4 : c.natAbs / b.natAbs ≤ c.natAbs := Nat.div_le_self _ _
          by_cases hc1 : c = -9223372036854775808
          · have hb1 : b ≠ -1 := fun h => hne ⟨h, hc1⟩
            by_cases hbp : b = 1
            · subst hbp; rw [Int.tdiv_one]; omega
            · have : 2 ≤ b.natAbs := by omega
              have h5 : c.natAbs / b.natAbs ≤ c.natAbs / 2 := Nat.div_le_div_left this (by decide)
              omega
          · omega
        rw [wr_in (inI_iff.2 hrange)] at hq
        exact hq
      have hsum := Int.mul_tdiv_add_tmod c b
      rw [hdiv] at hsum
      have hr : (c.tmod b).natAbs < b.natAbs := by
        rw [Int.natAbs_tmod]
        exact Nat.mod_lt _ (by omega)
      rw [Int.mul_comm] at hsum
      have hnot : ¬ (-9223372036854775808 ≤ a * b ∧ a * b ≤ 9223372036854775807) := fun h => by rw [inI_iff.2 h] at hi; cases hi
      generalize a * b = p at *
      omega
end Go.V
namespace Go.Proofs.YtlonmopppgadgaaDoor
open Go Go.V
theorem mul_wr {a b : Int} {k : D → Prop} (h : k (.i (wr (a * b)))) : aar .mul (.i a) (.i b) k := V.a_mulw h
theorem quo_wr {a b : Int} {k : D → Prop} (h0 : b ≠ 0) (h : k (.i (wr (a.tdiv b)))) : aar .quo (.i a) (.i b) k := ⟨rfl, h0, h⟩
theorem ints_add (a b : Int) : AFn pr 28 [.i 4, .i a, .i b] [] (.ret (.tuple [.i (wr (a + b)), .b (inI (a + b))])) := by
  refine AFn.small fun hs => AFn.of (s28 ?_)
  rw [Smalls, Smalls, Smalls, small_i, small_i, small_i] at hs
  obtain ⟨_, ha, hb, _⟩ := hs
  unfold A28
  refine a_eql (a_cndbT rfl ?_)
  refine V.a_addw ?_
  (refine a_lss ?_; refine a_lss ?_; refine a_neqB ?_)
  have e := wr_eq (a + b)
  refine a_cndb (fun h => ?_) (fun h => ?_)
  · refine congrArg AE.ret ?_
    have : inI (a + b) = true := by
      rw [inI_iff]
      by_cases h1 : a < 0 <;> by_cases h2 : b < 0 <;> simp [h1, h2] at h <;> omega
    rw [this]; rfl
  · (refine a_lss ?_; refine a_lss ?_; refine a_eqlB ?_)
    refine congrArg AE.ret ?_
    have h : (a < 0 ∧ b < 0) ∨ (¬ a < 0 ∧ ¬ b < 0) := by
      by_cases h1 : a < 0 <;> by_cases h2 : b < 0 <;> simp [h1, h2] at h ⊢
    have : (decide (IntKind.i64.wrap (a + b) < 0) == decide (a < 0)) = inI (a + b) := by
      rw [inI_eq]
      show (decide (wr (a + b) < 0) == decide (a < 0)) = _
      by_cases h1 : a < 0
      · rw [decide_eq_true h1]
        by_cases h2 : wr (a + b) < 0
        · rw [decide_eq_true h2, decide_eq_true (by omega)]; rfl
        · rw [decide_eq_false h2, decide_eq_false (by omega)]; rfl
      · rw [decide_eq_false h1]
        by_cases h2 : wr (a + b) < 0
        · rw [decide_eq_true h2, decide_eq_false (by omega)]; rfl
        · rw [decide_eq_false h2, decide_eq_true (by omega)]; rfl
    rw [this]; rfl
theorem ints_sub (a b : Int) : AFn pr 28 [.i 5, .i a, .i b] [] (.ret (.tuple [.i (wr (a - b)), .b (inI (a - b))])) := by
  refine AFn.small fun hs => AFn.of (s28 ?_)
  rw [Smalls, Smalls, Smalls, small_i, small_i, small_i] at hs
  obtain ⟨_, ha, hb, _⟩ := hs
  unfold A28
  refine a_eql (a_cndbF rfl ?_)
  refine a_eql (a_cndbT rfl ?_)
  refine V.a_subw ?_
  (refine a_lss ?_; refine a_lss ?_; refine a_eqlB ?_)
  have e := wr_eq (a - b)
  refine a_cndb (fun h => ?_) (fun h => ?_)
  · refine congrArg AE.ret ?_
    have : inI (a - b) = true := by
      rw [inI_iff]
      by_cases h1 : a < 0 <;> by_cases h2 : b < 0 <;> simp [h1, h2] at h <;> omega
    rw [this]; rfl
  · (refine a_lss ?_; refine a_lss ?_; refine a_eqlB ?_)
    refine congrArg AE.ret ?_
    have h : (a < 0 ∧ ¬ b < 0) ∨ (¬ a < 0 ∧ b < 0) := by
      by_cases h1 : a < 0 <;> by_cases h2 : b < 0 <;> simp [h1, h2] at h ⊢ <;> omega
    have : (decide (IntKind.i64.wrap (a - b) < 0) == decide (a < 0)) = inI (a - b) := by
      rw [inI_eq]
      show (decide (wr (a - b) < 0) == decide (a < 0)) = _
      by_cases h1 : a < 0
      · rw [decide_eq_true h1]
        by_cases h2 : wr (a - b) < 0
        · rw [decide_eq_true h2, decide_eq_true (by omega)]; rfl
        · rw [decide_eq_false h2, decide_eq_false (by omega)]; rfl
      · rw [decide_eq_false h1]
        by_cases h2 : wr (a - b) < 0
        · rw [decide_eq_true h2, decide_eq_false (by omega)]; rfl
        · rw [decide_eq_false h2, decide_eq_true (by omega)]; rfl
    rw [this]; rfl
theorem ints_mul (a b : Int) : AFn pr 28 [.i 6, .i a, .i b] [] (.ret (.tuple [.i (wr (a * b)), .b (inI (a * b))])) := by
  refine AFn.small fun hs => AFn.of (s28 ?_)
  rw [Smalls, Smalls, Smalls, small_i, small_i, small_i] at hs
  obtain ⟨_, ha, hb, _⟩ := hs
  unfold A28
  refine a_eql (a_cndbF rfl ?_)
  refine a_eql (a_cndbF rfl ?_)
  have z0 : AE.ret (.tuple [.i 0, .b true]) = AE.ret (.tuple [.i (wr 0), .b (inI 0)]) := rfl
  refine V.a_jn (σ := Unit) (fun _ => []) (fun _ => []) (fun _ => a ≠ 0 ∧ b ≠ 0) ?_ fun J hJ => ?_
  · rintro _ ⟨h1, h2⟩
    have hf := mul_flag ha hb h2
    refine mul_wr ?_
    refine quo_wr h2 ?_
    refine a_eql ?_
    refine a_cnd (fun q => ?_) (fun q => ?_)
    · rw [decide_eq_true q, Bool.true_and] at hf
      (refine a_eql ?_)
      refine V.a_jn (σ := Bool) (fun b => [.b b]) (fun _ => []) (fun x => x = (decide (a = -1) && decide (b = -9223372036854775808))) ?_ fun J2 hJ2 => ?_
      · rintro x hx
        dsimp only [aix0, aix1, aix2, aix3, aix4, aix5, aix6, aix7, aix8]
        (refine a_not ?_)
        refine a_cndb (fun q1 => ?_) (fun q1 => ?_)
        · (refine a_eql ?_)
          refine V.a_jn (σ := Bool) (fun b => [.b b]) (fun _ => []) (fun y => y = (decide (b = -1) && decide (a = -9223372036854775808))) ?_ fun J3 hJ3 => ?_
          · rintro y hy
            dsimp only [aix0, aix1, aix2, aix3, aix4, aix5, aix6, aix7, aix8]
            (refine a_not ?_)
            rw [hf, ← hx, ← hy, q1, Bool.true_and]
          refine a_cnd (fun q2 => ?_) (fun q2 => ?_)
          · (refine a_eql ?_)
            exact hJ3 _ _ _ (by rw [decide_eq_true q2, Bool.true_and]) (by first | exact Gl.refl _ _ | exact Gl.drop (by repeat (first | exact List.Sublist.refl _ | exact List.Sublist.slnil | apply List.Sublist.cons_cons | apply List.Sublist.cons)))
          · exact hJ3 _ _ _ (by rw [decide_eq_false q2, Bool.false_and]) (by first | exact Gl.refl _ _ | exact Gl.drop (by repeat (first | exact List.Sublist.refl _ | exact List.Sublist.slnil | apply List.Sublist.cons_cons | apply List.Sublist.cons)))
        · rw [hf, ← hx, q1, Bool.false_and]
      refine a_cnd (fun q2 => ?_) (fun q2 => ?_)
      · (refine a_eql ?_)
        exact hJ2 _ _ _ (by rw [decide_eq_true q2, Bool.true_and]) (by first | exact Gl.refl _ _ | exact Gl.drop (by repeat (first | exact List.Sublist.refl _ | exact List.Sublist.slnil | apply List.Sublist.cons_cons | apply List.Sublist.cons)))
      · exact hJ2 _ _ _ (by rw [decide_eq_false q2, Bool.false_and]) (by first | exact Gl.refl _ _ | exact Gl.drop (by repeat (first | exact List.Sublist.refl _ | exact List.Sublist.slnil | apply List.Sublist.cons_cons | apply List.Sublist.cons)))
    · rw [decide_eq_false q, Bool.false_and, Bool.false_and] at hf
      rw [hf]
  · (refine a_eql ?_)
    refine a_cnd (fun q => ?_) (fun q => ?_)
    · rw [q, Int.zero_mul]; exact z0
    (refine a_eql ?_)
    refine a_cnd (fun q2 => ?_) (fun q2 => ?_)
    · rw [q2, Int.mul_zero]; exact z0
    exact hJ () _ _ ⟨q, q2⟩ (by first | exact Gl.refl _ _ | exact Gl.drop (by repeat (first | exact List.Sublist.refl _ | exact List.Sublist.slnil | apply List.Sublist.cons_cons | apply List.Sublist.cons)))
theorem a_slcT1 {x : Tm} {r : List Tm} {k : D → Prop} (h : k (.row 4 (Tm.rows r))) : aslcL 4 (.row 4 (Tm.rows (x :: r))) (some (.i 1)) none k := by
  rw [Tm.rows_cons]
  exact ⟨rfl, 1, (x.cs :: Tm.rows r).length, rfl, ⟨_, rfl⟩, by simp, Nat.le_refl _, _, rfl, by rw [List.take_length]; exact h⟩
def numT (a : Int) : Tm := .mk 1 ⟨#[]⟩ a []
def res (r : Except Int Vl) : Vl × Int := match r with | .ok v => (v, 0) | .error e => (vz, e)
theorem big_add (a b : Int) : evalF (.mk 4 ⟨#[]⟩ 0 [.mk 1 ⟨#[]⟩ a [], .mk 1 ⟨#[]⟩ b []]) ⟨1, []⟩ = res (fit (a + b)) := rfl
theorem big_sub (a b : Int) : evalF (.mk 5 ⟨#[]⟩ 0 [.mk 1 ⟨#[]⟩ a [], .mk 1 ⟨#[]⟩ b []]) ⟨1, []⟩ = res (fit (a - b)) := rfl
theorem big_mul (a b : Int) : evalF (.mk 6 ⟨#[]⟩ a [.mk 1 ⟨#[]⟩ b []]) ⟨1, []⟩ = res (fit (a * b)) := rfl
theorem res_fit (v : Int) : res (fit v) = if inI v = true then (vI v, 0) else (vz, 5) := by
  unfold fit res
  by_cases h : inI v = true
  · rw [if_pos h, if_pos h]
  · rw [if_neg h, if_neg h]
theorem res_facts (v : Int) : (decide ((res (fit v)).2 = 0) == inI v) = true ∧ (inI v = true → (res (fit v)).2 = 0 ∧ (res (fit v)).1.n = wr v) ∧ (inI v = false → (res (fit v)).2 = 5) := by
  rw [res_fit]
  cases h : inI v with
  | true => exact ⟨rfl, fun _ => ⟨rfl, (wr_in h).symm⟩, fun h => (by cases h)⟩
  | false => exact ⟨rfl, fun h => (by cases h), fun _ => rfl⟩
theorem c6 (a b : Int) : AFn pr 6 [.i a, .i b] [] (.ret (.b true)) := by
  refine AFn.small fun hs => AFn.of (s6 ?_)
  rw [Smalls, Smalls, small_i, small_i] at hs
  obtain ⟨ha, hb, _⟩ := hs
  unfold A6
  have g1 := c27 (.mk 4 ⟨#[]⟩ 0 [.mk 1 ⟨#[]⟩ a [], .mk 1 ⟨#[]⟩ b []]) ⟨1, []⟩
  have g2 := c27 (.mk 5 ⟨#[]⟩ 0 [.mk 1 ⟨#[]⟩ a [], .mk 1 ⟨#[]⟩ b []]) ⟨1, []⟩
  have g3 := c27 (.mk 6 ⟨#[]⟩ a [.mk 1 ⟨#[]⟩ b []]) ⟨1, []⟩
  rw [big_add] at g1
  rw [big_sub] at g2
  rw [big_mul] at g3
  have f1 := res_facts (a + b)
  have f2 := res_facts (a - b)
  have f3 := res_facts (a * b)
  generalize res (fit (a + b)) = r1 at g1 f1
  generalize res (fit (a - b)) = r2 at g2 f2
  generalize res (fit (a * b)) = r3 at g3 f3
  obtain ⟨x1, n1⟩ := r1
  obtain ⟨x2, n2⟩ := r2
  obtain ⟨x3, n3⟩ := r3
  obtain ⟨p1, q1, u1⟩ := f1
  obtain ⟨p2, q2, u2⟩ := f2
  obtain ⟨p3, q3, u3⟩ := f3
  simp only at g1 g2 g3 p1 p2 p3 q1 q2 q3 u1 u2 u3
  (refine a_call0 (c26) ?_; refine a_bldW0 rfl rfl ?_; refine a_bx fun z1 => ?_; refine a_stA 0 rfl rfl rfl rfl ?_; refine a_bldT0 rfl rfl ?_; refine a_bldT0 rfl rfl ?_; refine a_rowS2 rfl ?_; refine a_bldT rfl rfl ?_; (apply a_ldA 0; exact rfl; exact rfl); refine a_call0 g1 ?_; (apply a_ext; exact rfl); (apply a_ext; exact rfl); refine a_bx fun z2 => ?_; refine a_stA 0 rfl rfl rfl rfl ?_; refine a_bldT rfl rfl ?_; (apply a_ldA 1; exact rfl; exact rfl); refine a_call0 g2 ?_; (apply a_ext; exact rfl); (apply a_ext; exact rfl); refine a_bx fun z3 => ?_; refine a_stA 0 rfl rfl rfl rfl ?_; refine a_slcT1 ?_; refine a_bldT rfl rfl ?_; (apply a_ldA 2; exact rfl; exact rfl); refine a_callS0 g3 ?_; (apply a_ext; exact rfl); (apply a_ext; exact rfl); refine a_bx fun z4 => ?_; refine a_stA 0 rfl rfl rfl rfl ?_; refine a_call0 (ints_add a b) ?_; (apply a_ext; exact rfl); (apply a_ext; exact rfl); refine a_call0 (ints_sub a b) ?_; (apply a_ext; exact rfl); (apply a_ext; exact rfl); refine a_call0 (ints_mul a b) ?_; (apply a_ext; exact rfl); (apply a_ext; exact rfl))
  refine V.a_jn (σ := Unit) (fun _ => []) (fun _ => [⟨z4, x3.cs, .box⟩, ⟨z3, x2.cs, .box⟩, ⟨z2, x1.cs, .box⟩]) (fun _ => True) ?_ fun J hJ => ?_
  · rintro _ _
    refine a_cndbT rfl ?_
    (refine a_eql ?_; refine a_eqlB ?_; refine a_cndbT (by first | omega | assumption | decide) ?_; refine a_eql ?_; refine a_eqlB ?_; refine a_cndbT (by first | omega | assumption | decide) ?_; refine a_eql ?_; refine a_eqlB ?_; refine a_cndbT (by first | omega | assumption | decide) ?_; refine a_not ?_)
    refine V.a_jn (σ := Bool) (fun y => [.b y]) (fun _ => [⟨z4, x3.cs, .box⟩, ⟨z3, x2.cs, .box⟩, ⟨z2, x1.cs, .box⟩]) (fun y => y = true) ?_ fun J2 hJ2 => ?_
    · rintro y rfl
      dsimp only [aix0, aix1, aix2, aix3, aix4, aix5, aix6, aix7, aix8]
      refine a_cndbT rfl ?_
      (refine a_not ?_)
      refine V.a_jn (σ := Bool) (fun y => [.b y]) (fun _ => [⟨z4, x3.cs, .box⟩, ⟨z3, x2.cs, .box⟩, ⟨z2, x1.cs, .box⟩]) (fun y => y = true) ?_ fun J3 hJ3 => ?_
      · rintro y rfl
        dsimp only [aix0, aix1, aix2, aix3, aix4, aix5, aix6, aix7, aix8]
        refine a_cndbT rfl ?_
        (refine a_not ?_)
        refine V.a_jn (σ := Bool) (fun y => [.b y]) (fun _ => []) (fun y => y = true) ?_ fun J4 hJ4 => ?_
        · rintro y rfl
          dsimp only [aix0, aix1, aix2, aix3, aix4, aix5, aix6, aix7, aix8]
          refine a_cndbT rfl ?_
          refine V.a_jn (σ := Bool) (fun y => [.b y]) (fun _ => []) (fun y => y = true) ?_ fun J5 hJ5 => ?_
          · rintro y rfl
            rfl
          refine a_cndb (fun h => ?_) (fun h => ?_)
          · exact hJ5 _ _ _ rfl (by first | exact Gl.refl _ _ | exact Gl.drop (by repeat (first | exact List.Sublist.refl _ | exact List.Sublist.slnil | apply List.Sublist.cons_cons | apply List.Sublist.cons)))
          · (refine a_eql ?_)
            exact hJ5 _ _ _ (decide_eq_true (u1 h)) (by first | exact Gl.refl _ _ | exact Gl.drop (by repeat (first | exact List.Sublist.refl _ | exact List.Sublist.slnil | apply List.Sublist.cons_cons | apply List.Sublist.cons)))
        refine a_cndb (fun h => ?_) (fun h => ?_)
        · exact hJ4 _ _ _ rfl (by first | exact Gl.refl _ _ | exact Gl.drop (by repeat (first | exact List.Sublist.refl _ | exact List.Sublist.slnil | apply List.Sublist.cons_cons | apply List.Sublist.cons)))
        · (refine a_fld ?_; (apply a_ld1 0; exact rfl; exact rfl); refine a_eql ?_)
          exact hJ4 _ _ _ (decide_eq_true (q3 (by simpa using h)).2) (by first | exact Gl.refl _ _ | exact Gl.drop (by repeat (first | exact List.Sublist.refl _ | exact List.Sublist.slnil | apply List.Sublist.cons_cons | apply List.Sublist.cons)))
      refine a_cndb (fun h => ?_) (fun h => ?_)
      · exact hJ3 _ _ _ rfl (by first | exact Gl.refl _ _ | exact Gl.drop (by repeat (first | exact List.Sublist.refl _ | exact List.Sublist.slnil | apply List.Sublist.cons_cons | apply List.Sublist.cons)))
      · (refine a_fld ?_; (apply a_ld1 1; exact rfl; exact rfl); refine a_eql ?_)
        exact hJ3 _ _ _ (decide_eq_true (q2 (by simpa using h)).2) (by first | exact Gl.refl _ _ | exact Gl.drop (by repeat (first | exact List.Sublist.refl _ | exact List.Sublist.slnil | apply List.Sublist.cons_cons | apply List.Sublist.cons)))
    refine a_cndb (fun h => ?_) (fun h => ?_)
    · exact hJ2 _ _ _ rfl (by first | exact Gl.refl _ _ | exact Gl.drop (by repeat (first | exact List.Sublist.refl _ | exact List.Sublist.slnil | apply List.Sublist.cons_cons | apply List.Sublist.cons)))
    · (refine a_fld ?_; (apply a_ld1 2; exact rfl; exact rfl); refine a_eql ?_)
      exact hJ2 _ _ _ (decide_eq_true (q1 (by simpa using h)).2) (by first | exact Gl.refl _ _ | exact Gl.drop (by repeat (first | exact List.Sublist.refl _ | exact List.Sublist.slnil | apply List.Sublist.cons_cons | apply List.Sublist.cons)))
  have out : J [] [⟨z4, x3.cs, .box⟩, ⟨z3, x2.cs, .box⟩, ⟨z2, x1.cs, .box⟩, ⟨z1, (Wd.mk 1 []).cs, .box⟩] := hJ () _ _ trivial (by first | exact Gl.refl _ _ | exact Gl.drop (by repeat (first | exact List.Sublist.refl _ | exact List.Sublist.slnil | apply List.Sublist.cons_cons | apply List.Sublist.cons)))
  (refine a_lss ?_)
  refine a_cnd (fun h1 => ?_) (fun h1 => ?_)
  · (refine a_gtr ?_)
    refine a_cnd (fun h2 => ?_) (fun h2 => ?_)
    · (refine a_lss ?_)
      refine a_cnd (fun h3 => ?_) (fun h3 => ?_)
      · (refine a_gtr ?_)
        refine a_cnd (fun h4 => ?_) (fun h4 => ?_)
        · have k1 : inI (a + b) = true := inI_iff.2 (by omega)
          have k2 : inI (a - b) = true := inI_iff.2 (by omega)
          have hm : (a * b).natAbs ≤ 1000000000 * 1000000000 := by
            rw [Int.natAbs_mul]
            exact Nat.mul_le_mul (by omega) (by omega)
          have k3 : inI (a * b) = true := inI_iff.2 (by omega)
          obtain ⟨v1, w1⟩ := q1 k1
          obtain ⟨v2, w2⟩ := q2 k2
          obtain ⟨v3, w3⟩ := q3 k3
          rw [wr_in k1] at w1
          rw [wr_in k2] at w2
          rw [wr_in k3] at w3
          (refine a_fld ?_; (apply a_ld1 2; exact rfl; exact rfl); refine a_add (by first | omega | assumption | decide) (by first | omega | assumption | decide) ?_; refine a_neq ?_; refine a_cndF (by first | omega | assumption | decide) ?_; refine a_fld ?_; (apply a_ld1 1; exact rfl; exact rfl); refine a_sub (by first | omega | assumption | decide) (by first | omega | assumption | decide) ?_; refine a_neq ?_; refine a_cndF (by first | omega | assumption | decide) ?_; refine a_fld ?_; (apply a_ld1 0; exact rfl; exact rfl))
          refine V.a_mul (by omega) (by omega) ?_
          (refine a_neq ?_; refine a_cndF (by first | omega | assumption | decide) ?_; refine a_neq ?_; refine a_cndF (by first | omega | assumption | decide) ?_; refine a_neq ?_; (apply a_jnX; intro J hJ); refine a_cndF (by first | omega | assumption | decide) ?_; refine a_neq ?_; exact hJ; dsimp only [aix0, aix1, aix2, aix3, aix4, aix5, aix6, aix7, aix8]; refine a_cndF (by first | omega | assumption | decide) ?_)
          exact out
        · exact out
      · exact out
    · exact out
  · exact out
end Go.Proofs.YtlonmopppgadgaaDoor
