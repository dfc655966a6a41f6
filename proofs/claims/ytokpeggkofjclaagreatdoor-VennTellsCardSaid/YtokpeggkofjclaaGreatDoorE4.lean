/- A number that is too large is never told as another one. -/
import Derived.Test.YtokpeggkofjclaaGreatDoorE3
set_option maxRecDepth 100000
set_option linter.unusedVariables false
namespace Go.V
def wr (n : Int) : Int := IntKind.i64.wrap n
theorem wr_eq (n : Int) : wr n = (n + 9223372036854775808) % 18446744073709551616 - 9223372036854775808 := i64_wrap' n
theorem wr_in {n : Int} (h : inI n = true) : wr n = n := by rw [inI_iff] at h; rw [wr_eq]; omega
/-- a product, by a quotient -/
theorem mul_flag {a b : Int} (ha : -9223372036854775808 ≤ a ∧ a ≤ 9223372036854775807) (hb : -9223372036854775808 ≤ b ∧ b ≤ 9223372036854775807) (h0 : b ≠ 0) :
    inI (a * b) = (decide (wr ((wr (a * b)).tdiv b) = a) && !(decide (a = -1) && decide (b = -9223372036854775808)) && !(decide (b = -1) && decide (a = -9223372036854775808))) := by
  by_cases hi : inI (a * b) = true
  · rw [hi]
    have hm := inI_iff.1 hi
    rw [wr_in hi, Int.mul_tdiv_cancel _ h0, wr_in (inI_iff.2 ha)]
    have h1 : ¬ (a = -1 ∧ b = -9223372036854775808) := by rintro ⟨rfl, rfl⟩; omega
    have h2 : ¬ (b = -1 ∧ a = -9223372036854775808) := by rintro ⟨rfl, rfl⟩; omega
    simp only [decide_true, Bool.true_and]
    rw [← Bool.decide_and, ← Bool.decide_and, decide_eq_false h1, decide_eq_false h2]
    rfl
  · rw [Bool.not_eq_true] at hi
    rw [hi]
    symm
    rw [Bool.and_eq_false_iff, Bool.and_eq_false_iff]
    by_cases h2 : b = -1 ∧ a = -9223372036854775808
    · right
      rw [decide_eq_true h2.1, decide_eq_true h2.2]; rfl
    · left; left
      rw [decide_eq_false_iff_not]
      intro hq
      have hc := wr_eq (a * b)
      generalize wr (a * b) = c at hq hc
      have hcr : -9223372036854775808 ≤ c ∧ c ≤ 9223372036854775807 := by omega
      have hdiv : c.tdiv b = a := by
        have hne : ¬ (b = -1 ∧ c = -9223372036854775808) := by
          rintro ⟨rfl, rfl⟩
          apply h2
          refine ⟨rfl, ?_⟩
          rw [← hq]
          decide
        have hrange : -9223372036854775808 ≤ c.tdiv b ∧ c.tdiv b ≤ 9223372036854775807 := by
          have h3 : (c.tdiv b).natAbs = c.natAbs / b.natAbs := Int.natAbs_tdiv c b
          have h4 : c.natAbs / b.natAbs ≤ c.natAbs := Nat.div_le_self _ _
          by_cases hc1 : c = -9223372036854775808
          · have hb1 : b ≠ -1 := fun h => hne ⟨h, hc1⟩
            by_cases hbp : b = 1
            · subst hbp; rw [Int.tdiv_one]; omega
            · have : 2 ≤ b.natAbs := by omega
              have h5 : c.natAbs / b.natAbs ≤ c.natAbs / 2 := Nat.div_le_div_left this (by decide)
              omega
          · omega
        rw [wr_in (inI_iff.2 hrange)] at hq
        exact hq
      have hsum := Int.mul_tdiv_add_tmod c b
      rw [hdiv] at hsum
      have hr : (c.tmod b).natAbs < b.natAbs := by
        rw [Int.natAbs_tmod]
        exact Nat.mod_lt _ (by omega)
      rw [Int.mul_comm] at hsum
      have hnot : ¬ (-9223372036854775808 ≤ a * b ∧ a * b ≤ 9223372036854775807) := fun h => by rw [inI_iff.2 h] at hi; cases hi
      generalize a * b = p at *
      omega
end Go.V
namespace Go.Proofs.YtokpeggkofjclaaGreatDoor
open Go Go.V
theorem mul_wr {a b : Int} {k : D → Prop} (h : k (.i (wr (a * b)))) : aar .mul (.i a) (.i b) k := V.a_mulw h
theorem quo_wr {a b : Int} {k : D → Prop} (h0 : b ≠ 0) (h : k (.i (wr (a.tdiv b)))) : aar .quo (.i a) (.i b) k := ⟨rfl, h0, h⟩
theorem ints_add (a b : Int) : AFn pr 64 [.i 4, .i a, .i b] [] (.ret (.tuple [.i (wr (a + b)), .b (inI (a + b))])) := by
  refine AFn.small fun hs => AFn.of (s64 ?_)
  rw [Smalls, Smalls, Smalls, small_i, small_i, small_i] at hs
  obtain ⟨_, ha, hb, _⟩ := hs
  unfold A64
  refine a_eql (a_cndbT rfl ?_)
  refine V.a_addw ?_
  (refine a_lss ?_; refine a_lss ?_; refine a_neqB ?_)
  have e := wr_eq (a + b)
  refine a_cndb (fun h => ?_) (fun h => ?_)
  · refine congrArg AE.ret ?_
    have : inI (a + b) = true := by
      rw [inI_iff]
      by_cases h1 : a < 0 <;> by_cases h2 : b < 0 <;> simp [h1, h2] at h <;> omega
    rw [this]; rfl
  · (refine a_lss ?_; refine a_lss ?_; refine a_eqlB ?_)
    refine congrArg AE.ret ?_
    have h : (a < 0 ∧ b < 0) ∨ (¬ a < 0 ∧ ¬ b < 0) := by
      by_cases h1 : a < 0 <;> by_cases h2 : b < 0 <;> simp [h1, h2] at h ⊢
    have : (decide (IntKind.i64.wrap (a + b) < 0) == decide (a < 0)) = inI (a + b) := by
      rw [inI_eq]
      show (decide (wr (a + b) < 0) == decide (a < 0)) = _
      by_cases h1 : a < 0
      · rw [decide_eq_true h1]
        by_cases h2 : wr (a + b) < 0
        · rw [decide_eq_true h2, decide_eq_true (by omega)]; rfl
        · rw [decide_eq_false h2, decide_eq_false (by omega)]; rfl
      · rw [decide_eq_false h1]
        by_cases h2 : wr (a + b) < 0
        · rw [decide_eq_true h2, decide_eq_false (by omega)]; rfl
        · rw [decide_eq_false h2, decide_eq_true (by omega)]; rfl
    rw [this]; rfl
theorem ints_sub (a b : Int) : AFn pr 64 [.i 5, .i a, .i b] [] (.ret (.tuple [.i (wr (a - b)), .b (inI (a - b))])) := by
  refine AFn.small fun hs => AFn.of (s64 ?_)
  rw [Smalls, Smalls, Smalls, small_i, small_i, small_i] at hs
  obtain ⟨_, ha, hb, _⟩ := hs
  unfold A64
  refine a_eql (a_cndbF rfl ?_)
  refine a_eql (a_cndbT rfl ?_)
  refine V.a_subw ?_
  (refine a_lss ?_; refine a_lss ?_; refine a_eqlB ?_)
  have e := wr_eq (a - b)
  refine a_cndb (fun h => ?_) (fun h => ?_)
  · refine congrArg AE.ret ?_
    have : inI (a - b) = true := by
      rw [inI_iff]
      by_cases h1 : a < 0 <;> by_cases h2 : b < 0 <;> simp [h1, h2] at h <;> omega
    rw [this]; rfl
  · (refine a_lss ?_; refine a_lss ?_; refine a_eqlB ?_)
    refine congrArg AE.ret ?_
    have h : (a < 0 ∧ ¬ b < 0) ∨ (¬ a < 0 ∧ b < 0) := by
      by_cases h1 : a < 0 <;> by_cases h2 : b < 0 <;> simp [h1, h2] at h ⊢ <;> omega
    have : (decide (IntKind.i64.wrap (a - b) < 0) == decide (a < 0)) = inI (a - b) := by
      rw [inI_eq]
      show (decide (wr (a - b) < 0) == decide (a < 0)) = _
      by_cases h1 : a < 0
      · rw [decide_eq_true h1]
        by_cases h2 : wr (a - b) < 0
        · rw [decide_eq_true h2, decide_eq_true (by omega)]; rfl
        · rw [decide_eq_false h2, decide_eq_false (by omega)]; rfl
      · rw [decide_eq_false h1]
        by_cases h2 : wr (a - b) < 0
        · rw [decide_eq_true h2, decide_eq_false (by omega)]; rfl
        · rw [decide_eq_false h2, decide_eq_true (by omega)]; rfl
    rw [this]; rfl
theorem ints_mul (a b : Int) : AFn pr 64 [.i 6, .i a, .i b] [] (.ret (.tuple [.i (wr (a * b)), .b (inI (a * b))])) := by
  refine AFn.small fun hs => AFn.of (s64 ?_)
  rw [Smalls, Smalls, Smalls, small_i, small_i, small_i] at hs
  obtain ⟨_, ha, hb, _⟩ := hs
  unfold A64
  refine a_eql (a_cndbF rfl ?_)
  refine a_eql (a_cndbF rfl ?_)
  have z0 : AE.ret (.tuple [.i 0, .b true]) = AE.ret (.tuple [.i (wr 0), .b (inI 0)]) := rfl
  refine V.a_jn (σ := Unit) (fun _ => []) (fun _ => []) (fun _ => a ≠ 0 ∧ b ≠ 0) ?_ fun J hJ => ?_
  · rintro _ ⟨h1, h2⟩
    have hf := mul_flag ha hb h2
    refine mul_wr ?_
    refine quo_wr h2 ?_
    refine a_eql ?_
    refine a_cnd (fun q => ?_) (fun q => ?_)
    · rw [decide_eq_true q, Bool.true_and] at hf
      (refine a_eql ?_)
      refine V.a_jn (σ := Bool) (fun b => [.b b]) (fun _ => []) (fun x => x = (decide (a = -1) && decide (b = -9223372036854775808))) ?_ fun J2 hJ2 => ?_
      · rintro x hx
        dsimp only [aix0, aix1, aix2, aix3, aix4, aix5, aix6, aix7, aix8]
        (refine a_not ?_)
        refine a_cndb (fun q1 => ?_) (fun q1 => ?_)
        · (refine a_eql ?_)
          refine V.a_jn (σ := Bool) (fun b => [.b b]) (fun _ => []) (fun y => y = (decide (b = -1) && decide (a = -9223372036854775808))) ?_ fun J3 hJ3 => ?_
          · rintro y hy
            dsimp only [aix0, aix1, aix2, aix3, aix4, aix5, aix6, aix7, aix8]
            (refine a_not ?_)
            rw [hf, ← hx, ← hy, q1, Bool.true_and]
          refine a_cnd (fun q2 => ?_) (fun q2 => ?_)
          · (refine a_eql ?_)
            exact hJ3 _ _ _ (by rw [decide_eq_true q2, Bool.true_and]) (by first | exact Gl.refl _ _ | exact Gl.drop (by repeat (first | exact List.Sublist.refl _ | exact List.Sublist.slnil | apply List.Sublist.cons_cons | apply List.Sublist.cons)))
          · exact hJ3 _ _ _ (by rw [decide_eq_false q2, Bool.false_and]) (by first | exact Gl.refl _ _ | exact Gl.drop (by repeat (first | exact List.Sublist.refl _ | exact List.Sublist.slnil | apply List.Sublist.cons_cons | apply List.Sublist.cons)))
        · rw [hf, ← hx, q1, Bool.false_and]
      refine a_cnd (fun q2 => ?_) (fun q2 => ?_)
      · (refine a_eql ?_)
        exact hJ2 _ _ _ (by rw [decide_eq_true q2, Bool.true_and]) (by first | exact Gl.refl _ _ | exact Gl.drop (by repeat (first | exact List.Sublist.refl _ | exact List.Sublist.slnil | apply List.Sublist.cons_cons | apply List.Sublist.cons)))
      · exact hJ2 _ _ _ (by rw [decide_eq_false q2, Bool.false_and]) (by first | exact Gl.refl _ _ | exact Gl.drop (by repeat (first | exact List.Sublist.refl _ | exact List.Sublist.slnil | apply List.Sublist.cons_cons | apply List.Sublist.cons)))
    · rw [decide_eq_false q, Bool.false_and, Bool.false_and] at hf
      rw [hf]
  · (refine a_eql ?_)
    refine a_cnd (fun q => ?_) (fun q => ?_)
    · rw [q, Int.zero_mul]; exact z0
    (refine a_eql ?_)
    refine a_cnd (fun q2 => ?_) (fun q2 => ?_)
    · rw [q2, Int.mul_zero]; exact z0
    exact hJ () _ _ ⟨q, q2⟩ (by first | exact Gl.refl _ _ | exact Gl.drop (by repeat (first | exact List.Sublist.refl _ | exact List.Sublist.slnil | apply List.Sublist.cons_cons | apply List.Sublist.cons)))
end Go.Proofs.YtokpeggkofjclaaGreatDoor
