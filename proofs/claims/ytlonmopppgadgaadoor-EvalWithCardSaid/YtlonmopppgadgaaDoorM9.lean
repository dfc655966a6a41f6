/- A value has its sort; names that do not stand in a term do not matter: the law alone. -/
import Derived.Test.YtlonmopppgadgaaDoorM7
import Derived.Test.YtlonmopppgadgaaDoorN1
set_option linter.unusedVariables false
namespace Go.V
open Go
section
variable {w u : Wd}
/-- the operations that take a name -/
theorem named_iff {t : Tm} {s : Int} (h : rightT t s = true) : (shpAt t.op).name = true ↔ t.op = 2 ∨ t.op = 7 ∨ t.op = 14 ∨ t.op = 15 := by
  have r := (right_iff t s).1 h
  have : ∀ k : Fin 29, (shpAt (k.1 : Int)).name = true ↔ (k.1 : Int) = 2 ∨ (k.1 : Int) = 7 ∨ (k.1 : Int) = 14 ∨ (k.1 : Int) = 15 := by decide
  have h := this ⟨t.op.toNat, by have := r.op1; have := r.op2; omega⟩
  have h0 := r.op1
  simp only [Int.toNat_of_nonneg (show 0 ≤ t.op by omega)] at h
  exact h
/-- of no name, nothing asks the world for one -/
theorem opV_other {op : Int} {nm : ByteArray} {n : Int} {vs : List Vl} (hn : w.nodes = u.nodes) (h1 : 1 ≤ op) (h2 : op ≤ 28) (h : ¬ (op = 2 ∨ op = 7 ∨ op = 14 ∨ op = 15)) : opV w op nm n vs = opV u op nm n vs := by
  have hop : ∃ i : Fin 29, op = (i.1 : Int) := ⟨⟨op.toNat, by omega⟩, by simp only; omega⟩
  have hw : ∀ f, whereF w f = whereF u f := fun f => by unfold whereF; rw [hn]
  obtain ⟨i, rfl⟩ := hop
  unfold opV
  rw [Int.toNat_natCast]
  revert h1 h
  match i with
  | ⟨0, _⟩ => intro h1; simp at h1
  | ⟨1, _⟩ => intro _ _; rfl
  | ⟨2, _⟩ => intro _ h; exact absurd (.inl rfl) h
  | ⟨3, _⟩ => intro _ _; rfl
  | ⟨4, _⟩ => intro _ _; rfl
  | ⟨5, _⟩ => intro _ _; rfl
  | ⟨6, _⟩ => intro _ _; rfl
  | ⟨7, _⟩ => intro _ h; exact absurd (.inr (.inl rfl)) h
  | ⟨8, _⟩ => intro _ _; exact congrArg Except.ok (hw _)
  | ⟨9, _⟩ => intro _ _; exact congrArg Except.ok (hw _)
  | ⟨10, _⟩ => intro _ _; exact congrArg Except.ok (hw _)
  | ⟨11, _⟩ => intro _ _; exact congrArg Except.ok (hw _)
  | ⟨12, _⟩ => intro _ _; exact congrArg Except.ok (hw _)
  | ⟨13, _⟩ => intro _ _; exact congrArg Except.ok (hw _)
  | ⟨14, _⟩ => intro _ h; exact absurd (.inr (.inr (.inl rfl))) h
  | ⟨15, _⟩ => intro _ h; exact absurd (.inr (.inr (.inr rfl))) h
  | ⟨16, _⟩ => intro _ _; rfl
  | ⟨17, _⟩ => intro _ _; rfl
  | ⟨18, _⟩ => intro _ _; rfl
  | ⟨19, _⟩ => intro _ _; rfl
  | ⟨20, _⟩ => intro _ _; rfl
  | ⟨21, _⟩ => intro _ _; rfl
  | ⟨22, _⟩ => intro _ _; rfl
  | ⟨23, _⟩ => intro _ _; rfl
  | ⟨24, _⟩ => intro _ _; rfl
  | ⟨25, _⟩ => intro _ _; rfl
  | ⟨26, _⟩ => intro _ _; rfl
  | ⟨27, _⟩ => intro _ _; rfl
  | ⟨28, _⟩ => intro _ _; rfl
theorem opV_name {op : Int} {nm : ByteArray} {n : Int} {vs : List Vl} (h : op = 2 ∨ op = 7 ∨ op = 14 ∨ op = 15) : opV w op nm n vs = nameV w nm (shpAt op).sort := by
  rcases h with rfl | rfl | rfl | rfl <;> rfl
/-- a name of a right term: it alone -/
theorem right_named {t : Tm} {s : Int} (h : rightT t s = true) (ho : t.op = 2 ∨ t.op = 7 ∨ t.op = 14 ∨ t.op = 15) : t.a = [] ∧ collT t = [(t.nm.data.toList, t.op)] := by
  have r := (right_iff t s).1 h
  have hnm := (named_iff h).2 ho
  have ha : t.a = [] := by
    have hlen := r.len
    rcases ho with e | e | e | e <;> (rw [e] at hlen; exact List.length_eq_zero_iff.1 (hlen rfl))
  have hnn : t.nm ≠ ⟨#[]⟩ := fun e => by
    have := r.nm1 hnm
    rw [e] at this
    cases this
  exact ⟨ha, by rw [collT_eq, if_neg hnn, ha, collL]; rfl⟩
theorem right_bare' {t : Tm} {s : Int} (h : rightT t s = true) (ho : ¬ (t.op = 2 ∨ t.op = 7 ∨ t.op = 14 ∨ t.op = 15)) : collT t = collL t.a := by
  have r := (right_iff t s).1 h
  have hnm : (shpAt t.op).name = false := by
    cases hh : (shpAt t.op).name
    · rfl
    · exact absurd ((named_iff h).1 hh) ho
  rw [collT_eq, if_pos (r.nm2 hnm)]; rfl
theorem evL_congr : ∀ (l : List Tm), (∀ x ∈ l, evV u x = evV w x) → evL u l = evL w l
  | [], _ => by rw [evL0, evL0]
  | x :: r, h => by rw [evL_cons, evL_cons, h x (by simp), evL_congr r fun y hy => h y (by simp [hy])]
/-- a term's value hangs on its names alone -/
theorem ev_apart (hn : w.nodes = u.nodes) (t : Tm) : ∀ s, rightT t s = true → (∀ x ∈ collT t, getF u.names (str x.1) (shpAt x.2).sort = getF w.names (str x.1) (shpAt x.2).sort) → evV u t = evV w t := by
  induction t using Tm.ind' with
  | h t ih =>
    intro s h hc
    have r := (right_iff t s).1 h
    by_cases ho : t.op = 2 ∨ t.op = 7 ∨ t.op = 14 ∨ t.op = 15
    · obtain ⟨ha, hcol⟩ := right_named h ho
      have hg := hc _ (by rw [hcol]; exact List.mem_singleton.2 rfl)
      simp only at hg
      rw [← str_of] at hg
      cases t with | mk op nm n a =>
      simp only [Tm.op, Tm.a, Tm.nm] at ho ha hg
      subst ha
      rw [evV_eq, evV_eq, evL0, evL0]
      show opV u op nm n [] = opV w op nm n []
      rw [opV_name ho, opV_name ho]
      unfold nameV
      rw [hg]
    · rw [right_bare' h ho] at hc
      have hl := evL_congr (u := u) (w := w) t.a fun x hx => by
        obtain ⟨i, hi, rfl⟩ := List.mem_iff_getElem.1 hx
        exact ih _ hx _ (r.kids i hi) fun z hz => hc z (collL_mem.2 ⟨_, hx, hz⟩)
      have h1 := r.op1
      have h2 := r.op2
      cases t with | mk op nm n a =>
      simp only [Tm.op, Tm.a] at ho hl h1 h2
      rw [evV_eq, evV_eq, hl]
      cases evL w a with
      | error e => rfl
      | ok vs => exact (opV_other hn h1 h2 ho).symm
/-- which names are there, where it has a value, or no name is missing -/
theorem evL_there : ∀ (l : List Tm), (∀ x ∈ l, (∀ v, evV w x = .ok v → ∀ z ∈ collT x, (getF w.names (str z.1) (shpAt z.2).sort).isSome = true) ∧ (evV w x = .error 4 → ∃ z ∈ collT x, (getF w.names (str z.1) (shpAt z.2).sort).isSome = false)) →
    (∀ vs, evL w l = .ok vs → ∀ z ∈ collL l, (getF w.names (str z.1) (shpAt z.2).sort).isSome = true) ∧ (evL w l = .error 4 → ∃ z ∈ collL l, (getF w.names (str z.1) (shpAt z.2).sort).isSome = false)
  | [], _ => ⟨fun _ _ z hz => (by rw [collL] at hz; cases hz), fun h => (by rw [evL0] at h; cases h)⟩
  | x :: r, h => by
    obtain ⟨a1, a2⟩ := h x (by simp)
    obtain ⟨b1, b2⟩ := evL_there r fun y hy => h y (by simp [hy])
    rw [evL_cons, collL]
    cases hx : evV w x with
    | error e =>
      refine ⟨fun vs hh => (by cases hh), fun hh => ?_⟩
      injection hh with hh
      subst hh
      obtain ⟨z, hz, g⟩ := a2 hx
      exact ⟨z, List.mem_append_left _ hz, g⟩
    | ok v =>
      cases hr : evL w r with
      | error e =>
        refine ⟨fun vs hh => (by cases hh), fun hh => ?_⟩
        injection hh with hh
        subst hh
        obtain ⟨z, hz, g⟩ := b2 hr
        exact ⟨z, List.mem_append_right _ hz, g⟩
      | ok vs =>
        refine ⟨fun _ _ z hz => ?_, fun hh => (by cases hh)⟩
        rcases List.mem_append.1 hz with hz | hz
        · exact a1 v hx z hz
        · exact b1 vs hr z hz
theorem ev_there (t : Tm) : ∀ s, rightT t s = true → (∀ v, evV w t = .ok v → ∀ z ∈ collT t, (getF w.names (str z.1) (shpAt z.2).sort).isSome = true) ∧ (evV w t = .error 4 → ∃ z ∈ collT t, (getF w.names (str z.1) (shpAt z.2).sort).isSome = false) := by
  induction t using Tm.ind' with
  | h t ih =>
    intro s h
    have r := (right_iff t s).1 h
    by_cases ho : t.op = 2 ∨ t.op = 7 ∨ t.op = 14 ∨ t.op = 15
    · obtain ⟨ha, hcol⟩ := right_named h ho
      rw [hcol]
      cases t with | mk op nm n a =>
      simp only [Tm.op, Tm.a, Tm.nm] at ho ha ⊢
      subst ha
      have hs : str nm.data.toList = nm := (str_of nm).symm
      have e : evV w (.mk op nm n []) = nameV w nm (shpAt op).sort := by rw [evV_eq, evL0]; exact opV_name ho
      rw [e]
      unfold nameV
      cases hg : getF w.names nm (shpAt op).sort with
      | none => exact ⟨fun v hh => (by cases hh), fun _ => ⟨_, List.mem_singleton.2 rfl, by simp only; rw [hs, hg]; rfl⟩⟩
      | some v => exact ⟨fun _ _ z hz => (by rw [List.mem_singleton.1 hz]; simp only; rw [hs, hg]; rfl), fun hh => (by cases hh)⟩
    · rw [right_bare' h ho]
      have hl := evL_there (w := w) t.a fun x hx => by
        obtain ⟨i, hi, rfl⟩ := List.mem_iff_getElem.1 hx
        exact ih _ hx _ (r.kids i hi)
      have h1 := r.op1
      have h2 := r.op2
      cases t with | mk op nm n a =>
      simp only [Tm.op, Tm.a] at ho hl h1 h2 ⊢
      rw [evV_eq]
      cases he : evL w a with
      | error e =>
        refine ⟨fun v hh => (by cases hh), fun hh => ?_⟩
        injection hh with hh
        subst hh
        exact hl.2 he
      | ok vs =>
        refine ⟨fun v _ => hl.1 vs he, fun hh => ?_⟩
        exfalso
        have hh : opV w op nm n vs = .error 4 := hh
        have hf : ∀ v, fit v ≠ .error 4 := fun v => by
          unfold fit
          split
          · intro h; cases h
          · intro h; injection h with h; cases h
        unfold opV at hh
        have hop : ∃ i : Fin 29, op = (i.1 : Int) := ⟨⟨op.toNat, by omega⟩, by simp only; omega⟩
        obtain ⟨i, rfl⟩ := hop
        rw [Int.toNat_natCast] at hh
        split at hh
        all_goals first | exact hf _ hh | (cases hh; done) | (rename_i q; exact ho (by omega))
end
end Go.V
