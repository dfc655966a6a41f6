/- Laws of layer 5: what must be in any case; SubstNone, SubstTwice, SubstFresh. -/
import Derived.Test.YtaigilchnadmpaaGreatDoorC26
set_option maxRecDepth 100000
set_option linter.unusedVariables false
namespace Go.V
open Go
def smallB (t : Tm) : Bool := decide ((sortF t).2 = 0) && (decide (t.size ≤ 200) && decide (t.dep ≤ 20))
theorem smallB_iff {t : Tm} : smallB t = true ↔ (sortF t).2 = 0 ∧ t.size ≤ 200 ∧ t.dep ≤ 20 := by
  unfold smallB; rw [Bool.and_eq_true, Bool.and_eq_true, decide_eq_true_eq, decide_eq_true_eq, decide_eq_true_eq]
def xV : Tm := .mk 2 ⟨#[120]⟩ 0 []
def yV : Tm := .mk 2 ⟨#[121]⟩ 0 []
def nV (n : Int) : Tm := .mk 1 ⟨#[]⟩ n []
def sumV : Tm := mk 4 [yV, nV 1]
theorem shown1 : PutF xV [⟨⟨#[120]⟩, sumV⟩, ⟨⟨#[121]⟩, xV⟩] = (sumV, 0) := by kernel_rfl
theorem shown2 : PutF xV [⟨⟨#[120]⟩, mk 16 []⟩] = (xV, 0) := by kernel_rfl
theorem shown3 : freeF sumV ⟨#[121]⟩ = true := by kernel_rfl
theorem shown4 : freeF sumV ⟨#[120]⟩ = false := by kernel_rfl
theorem shown5 : freshL [xV] [120] = [120, 95, 48] := by kernel_rfl
theorem shown6 : freshL [xV] [121] = [121] := by kernel_rfl
theorem shown7 : sameF sumV sumV = true := by kernel_rfl
theorem shown8 : sameF xV xV = true := by kernel_rfl
theorem a_slcM {k : D → Prop} {α : Type} {sz : Nat} {f : α → List D} {l : List α} {ki : IntKind} (n : Nat) (hn : n ≤ l.length) (h : k (.row sz ((l.take n).map f))) : aslcL sz (.row sz (l.map f)) none (some (.val (.int ki n))) k := by
  refine ⟨rfl, 0, n, ⟨ki, rfl⟩, rfl, Nat.zero_le _, by rw [List.length_map]; exact hn, _, rfl, ?_⟩
  rw [List.drop_zero, ← List.map_take]
  exact h
end Go.V
namespace Go.Proofs.YtaigilchnadmpaaGreatDoor
open Go Go.V
theorem As.a_f1 {x : As} {k : D → Prop} (h : k (.pin x.to.cs)) : afld 1 (.pin (As.cr x)) k := h
theorem As.a_f0 {x : As} {k : D → Prop} (h : k (.pin (As.cr x))) : afld 0 (.pin (As.cr x)) k := h
theorem As.a_s {x : As} {k : D → Prop} (h : k (.s x.nm)) {L : List Bx} : ald1 (.pin (As.cr x)) L k := h
theorem c13 (t : Tm) : AFn pr 13 [t.d] [] (.ret (.b (smallB t))) := by
  refine AFn.of (s13 ?_)
  unfold A13
  have e1 : sizT t 0 = min (t.size : Int) 2001 := by rw [sizT_min t 0 (by omega) (by omega)]; omega
  have e2 : deepT t 101 = min (t.dep : Int) 101 := deepT_min t 101 (by omega)
  unfold smallB
  (refine a_bxv fun z1 => ?_; (apply a_ldA 0; exact rfl; exact rfl); refine a_call0 (c12 _) ?_; (apply a_ext; exact rfl); (apply a_ext; exact rfl); refine a_eql ?_)
  refine a_cnd (fun h1 => ?_) (fun h1 => ?_)
  · ((apply a_ldA 0; exact rfl; exact rfl); refine a_call0 (c50 _) ?_; refine a_leq ?_)
    refine a_cnd (fun h2 => ?_) (fun h2 => ?_)
    · ((apply a_ldA 0; exact rfl; exact rfl); refine a_call0 (c51 _) ?_; refine a_leq ?_)
      exact ret_b (by rw [decide_eq_true h1, decide_eq_true (show t.size ≤ 200 by omega), Bool.true_and, Bool.true_and]; by_cases h3 : t.dep ≤ 20; rw [decide_eq_true h3, decide_eq_true (by omega)]; rw [decide_eq_false h3, decide_eq_false (by omega)])
    · exact ret_b (by rw [decide_eq_true h1, decide_eq_false (show ¬ t.size ≤ 200 by omega)]; rfl)
  · exact ret_b (by rw [decide_eq_false h1]; rfl)
theorem c11 : AFn pr 11 [] [] (.ret (.b true)) := by
  refine AFn.of (s11 ?_)
  unfold A11
  (refine a_bldT0 rfl rfl ?_; refine a_bx fun z1 => ?_; refine a_stA 0 rfl rfl rfl rfl ?_; refine a_bldT0 rfl rfl ?_; refine a_bx fun z2 => ?_; refine a_stA 0 rfl rfl rfl rfl ?_; (apply a_ldA 0; exact rfl; exact rfl); refine a_bldT0 rfl rfl ?_; refine a_rowS2 rfl ?_; refine a_bldT rfl rfl ?_; refine a_bx fun z3 => ?_; refine a_stA 0 rfl rfl rfl rfl ?_; (apply a_ldA 2; exact rfl; exact rfl); (apply a_ldA 0; exact rfl; exact rfl); refine a_bldA rfl rfl ?_; (apply a_ldA 2; exact rfl; exact rfl); refine a_bldA rfl rfl ?_; refine a_rowAS2 rfl ?_; refine a_call0 (c14 _ _) ?_; (apply a_ext; exact rfl); (apply a_ext; exact rfl); refine a_bx fun z4 => ?_; refine a_stA 0 rfl rfl rfl rfl ?_; (apply a_ldA 3; exact rfl; exact rfl); refine a_bldT0 rfl rfl ?_; refine a_bldA rfl rfl ?_; refine a_rowAS1 rfl ?_; refine a_call0 (c14 _ _) ?_; (apply a_ext; exact rfl); (apply a_ext; exact rfl); refine a_bx fun z5 => ?_; refine a_stA 0 rfl rfl rfl rfl ?_; refine a_eql ?_; refine a_cndbT rfl ?_; (apply a_ldA 1; exact rfl; exact rfl); (apply a_ldA 2; exact rfl; exact rfl); refine a_call0 (c16 _ _) ?_; refine a_cndbT rfl ?_; refine a_eql ?_; refine a_cndbT rfl ?_; (apply a_ldA 0; exact rfl; exact rfl); (apply a_ldA 4; exact rfl; exact rfl); refine a_call0 (c16 _ _) ?_; refine a_cndbT rfl ?_; (apply a_ldA 2; exact rfl; exact rfl); refine a_call0 (c17 _ _) ?_)
  refine a_cndbT shown3 ?_
  ((apply a_ldA 2; exact rfl; exact rfl); refine a_call0 (c17 _ _) ?_; refine a_not ?_)
  refine a_cndbT (by have := shown4; unfold sumV yV nV mk at this; rw [this]; rfl) ?_
  ((apply a_ldA 4; exact rfl; exact rfl); refine a_rowS1 rfl ?_; refine a_call0 (c19 [xV] [120]) ?_; refine a_eqlS ?_)
  rw [shown5]
  (refine a_cndbT rfl ?_; (apply a_ldA 4; exact rfl; exact rfl); refine a_rowS1 rfl ?_; refine a_call0 (c19 [xV] [121]) ?_; refine a_eqlS ?_)
  rw [shown6]
  skip
  exact ret_b (by decide +kernel)
theorem namesN_snoc (ts : List Tm) (t : Tm) : namesN (ts ++ [t]) = namesN ts + (NamesF t).length := by
  rw [← namesN_flat, ← namesN_flat, List.flatMap_append, List.length_append]
  simp
theorem namesN_le : ∀ ts : List Tm, namesN ts ≤ 2000 * ts.length
  | [] => by simp [namesN]
  | t :: r => by have := namesN_le r; have := namesF_len t; rw [namesN, List.length_cons]; omega
theorem a_slcR {ts : List Tm} {ki : IntKind} {k : D → Prop} (n : Nat) (hn : n ≤ ts.length) (h : k (.row 4 (Tm.rows (ts.take n)))) : aslcL 4 (.row 4 (Tm.rows ts)) none (some (.val (.int ki n))) k := by
  refine ⟨rfl, 0, n, ⟨ki, rfl⟩, rfl, Nat.zero_le _, by rw [Tm.rows_len]; exact hn, _, rfl, ?_⟩
  rw [List.drop_zero, Tm.rows_eq, ← List.map_take, ← Tm.rows_eq]
  exact h
end Go.Proofs.YtaigilchnadmpaaGreatDoor
