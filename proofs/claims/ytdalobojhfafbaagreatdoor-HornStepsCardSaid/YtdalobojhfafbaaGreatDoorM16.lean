/- What was put has the value that the term has in a world with the values. -/
import Derived.Test.YtdalobojhfafbaaGreatDoorM13
import Derived.Test.YtdalobojhfafbaaGreatDoorM15
set_option linter.unusedVariables false
namespace Go.V
open Go
theorem pt_val {w u : Wd} {l : List As} (hn : w.nodes = u.nodes) (hg : ∀ nm s, match pickA l nm s with | some v => ∃ x, evV w v = .ok x ∧ getF u.names nm s = some x | none => getF u.names nm s = getF w.names nm s) (t : Tm) :
    ∀ {s : Int}, rightT t s = true → evV w (ptT (pickT l) t) = evV u t := by
  induction t using Tm.ind' with
  | h t ih =>
    intro s h
    have r := (right_iff t s).1 h
    cases hnm : (shpAt t.op).name with
    | true =>
      have ho := (named_iff h).1 hnm
      obtain ⟨_, _, ha, _⟩ := named_self h hnm
      rw [pt_name h hnm]
      have hgt := hg t.nm (shpAt t.op).sort
      cases t with | mk op nm n a =>
      simp only [Tm.op, Tm.a, Tm.nm] at ho ha hgt ⊢
      subst ha
      rw [evV_eq u, evL0]
      show _ = opV u op nm n []
      rw [opV_name ho]
      unfold nameV
      cases hp : pickA l nm (shpAt op).sort with
      | some v =>
        rw [hp] at hgt
        obtain ⟨x, e1, e2⟩ := hgt
        rw [e2]; exact e1
      | none =>
        rw [hp] at hgt
        show evV w (Tm.mk op nm n []) = _
        rw [evV_eq w, evL0]
        show opV w op nm n [] = _
        rw [opV_name ho]
        unfold nameV
        rw [hgt]
    | false =>
      have ho : ¬ (t.op = 2 ∨ t.op = 7 ∨ t.op = 14 ∨ t.op = 15) := fun ho => by rw [(named_iff h).2 ho] at hnm; cases hnm
      rw [pt_bare h hnm]
      have hl : ∀ (a : List Tm), (∀ x ∈ a, evV w (ptT (pickT l) x) = evV u x) → evL w (a.map (ptT (pickT l))) = evL u a := by
        intro a
        induction a with
        | nil => intro _; rw [List.map_nil, evL0, evL0]
        | cons x r ih => intro hx; rw [List.map_cons, evL_cons, evL_cons, hx x (by simp), ih fun y hy => hx y (by simp [hy])]
      have hl := hl t.a fun x hx => by
        obtain ⟨i, hi, rfl⟩ := List.mem_iff_getElem.1 hx
        exact ih _ hx (r.kids i hi)
      have h1 := r.op1
      have h2 := r.op2
      cases t with | mk op nm n a =>
      simp only [Tm.op, Tm.a, Tm.nm, Tm.n] at ho hl h1 h2 ⊢
      rw [evV_eq, evV_eq, hl]
      cases evL u a with
      | error e => rfl
      | ok vs => exact opV_other hn h1 h2 ho
end Go.V
set_option linter.unusedVariables false
namespace Go.V
open Go
theorem isF_of {w : Wd} {v : Vl} {s : Int} (h1 : 1 ≤ w.nodes) (h : OkV w s v) (hs : s = 1 ∨ s = 2 ∨ s = 3 ∨ s = 4) : isF v w.nodes = true := by
  obtain ⟨rfl, h2, h3, h4, h5⟩ := h
  unfold isF
  rw [Bool.and_eq_true, Bool.and_eq_true, decide_eq_true_eq, decide_eq_true_eq]
  refine ⟨⟨?_, ?_⟩, ?_⟩
  · rw [h2]; split <;> omega
  · by_cases h : v.sort = 4
    · simp [h]
    · rw [h4 h]; rfl
  · rcases hs with e | e | e | e
    · exact .inl e
    · exact .inr (.inr (.inl ⟨e, h5 (.inl e)⟩))
    · exact .inr (.inl ⟨e, h3 e⟩)
    · exact .inr (.inr (.inr ⟨e, h5 (.inr e)⟩))
theorem shp_sort4 {op : Int} (h1 : 1 ≤ op) (h2 : op ≤ 28) : (shpAt op).sort = 1 ∨ (shpAt op).sort = 2 ∨ (shpAt op).sort = 3 ∨ (shpAt op).sort = 4 := by
  have : ∀ k : Fin 29, 1 ≤ k.1 → ((shpAt (k.1 : Int)).sort = 1 ∨ (shpAt (k.1 : Int)).sort = 2 ∨ (shpAt (k.1 : Int)).sort = 3 ∨ (shpAt (k.1 : Int)).sort = 4) := by decide
  have h := this ⟨op.toNat, by omega⟩ (by simp only; omega)
  simp only [Int.toNat_of_nonneg (show 0 ≤ op by omega)] at h
  exact h
theorem eval_okV {t : Tm} {w : Wd} (hw : rightW w = true) (h0 : (sortF t).2 = 0) (he : (evalF t w).2 = 0) : evV w t = .ok (evalF t w).1 ∧ OkV w (sortF t).1 (evalF t w).1 ∧ isF (evalF t w).1 w.nodes = true := by
  have e := evalF_of hw (Prod.ext rfl h0 : sortF t = ((sortF t).1, 0))
  have hok : OkV w (sortF t).1 (evalF t w).1 := by
    rcases there_eval hw h0 with ⟨_, _, h⟩ | ⟨_, h | ⟨h, _⟩⟩
    · exact h
    · omega
    · omega
  refine ⟨?_, hok, ?_⟩
  · rw [e] at he ⊢
    cases hv : evV w t with
    | ok v => rfl
    | error x =>
      rw [hv] at he
      simp only at he
      have h := there_eval hw h0
      rw [e, hv] at h
      simp only at h
      rcases h with ⟨_, _, h⟩ | ⟨_, h | ⟨h, _⟩⟩
      · have := h.sort
        obtain ⟨_, _, r, hs⟩ := sortF_ok h0
        have r := (right_iff t 0).1 r
        have := shp_sort4 r.op1 r.op2
        have : vz.sort = 0 := rfl
        omega
      · omega
      · omega
  · obtain ⟨_, _, r, hs⟩ := sortF_ok h0
    have r := (right_iff t 0).1 r
    exact isF_of (rightW_spec hw).1 hok (by rw [hs]; exact shp_sort4 r.op1 r.op2)
end Go.V
