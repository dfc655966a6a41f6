/- What V0's words say of a piece of code is so in the model. -/
import Derived.Test.YtlonmopppgadgaaDoorV1
namespace Go.V
open Go

structure Agree (n : Nat) (e : Env) (a : Act) : Prop where
  size : a.tmps.size = n
  tmp : ∀ i, a.tmps.getD i undef = e.get i
  dfr : a.defers = e.dfr
def Same (D : List Nat) (e e' : Env) : Prop := ∀ i, i ∉ D → e'.get i = e.get i
def lt (n : Nat) (D : List Nat) : Prop := ∀ d ∈ D, d < n

theorem mem_iff : ∀ (D : List Nat) (i : Nat), mem i D = true ↔ i ∈ D
  | [], i => by simp [mem]
  | d :: D, i => by
    simp only [mem, Bool.cond_eq_ite, List.mem_cons]
    split
    · rename_i h; simp [Nat.beq_eq] at h; simp [h]
    · rename_i h; simp [Nat.beq_eq] at h; simp [h, mem_iff D i]
theorem Agree.ev {n : Nat} {e : Env} {a : Act} (h : Agree n e a) : a.eval = e.ev := by
  funext x
  cases x <;> simp [Act.eval, Env.ev, h.tmp]
theorem Env.get_put (e : Env) (d : Nat) (v : Value) (i : Nat) : (e.put (some d) v).get i = if i = d then v else e.get i := by
  simp only [Env.put, Bool.cond_eq_ite]
  by_cases h : i = d
  · simp [h]
  · rw [if_neg h, if_neg (by simp [Nat.beq_eq, h])]
theorem Env.dfr_put (e : Env) (d : Option Tmp) (v : Value) : (e.put d v).dfr = e.dfr := by cases d <;> rfl
theorem Agree.put {n : Nat} {e : Env} {a : Act} (h : Agree n e a) {d : Option Tmp} (hd : ∀ x, d = some x → x < n) (v : Value) : Agree n (e.put d v) (a.put d v) := by
  cases d with
  | none => exact h
  | some d =>
    refine ⟨by simp [Act.put, h.size], fun i => ?_, h.dfr⟩
    rw [Env.get_put, ← h.tmp i]
    have hl : d < a.tmps.size := by rw [h.size]; exact hd d rfl
    simp only [Act.put, Array.getD_eq_getD_getElem?, Array.getElem?_setIfInBounds]
    by_cases hi : i = d
    · subst hi; simp [hl]
    · rw [if_neg (fun hh => hi hh.symm), if_neg hi]
theorem Agree.congr {n : Nat} {e e' : Env} {a : Act} (h : Agree n e a) (hg : ∀ i, e'.get i = e.get i) (hd : e'.dfr = e.dfr) : Agree n e' a :=
  ⟨h.size, fun i => by rw [hg]; exact h.tmp i, by rw [hd]; exact h.dfr⟩
theorem Same.refl (D : List Nat) (e : Env) : Same D e e := fun _ _ => rfl
theorem Same.trans {D : List Nat} {e e' e'' : Env} (h : Same D e e') (h' : Same D e' e'') : Same D e e'' := fun i hi => (h' i hi).trans (h i hi)
theorem Same.mono {D D' : List Nat} {e e' : Env} (h : Same D e e') (hs : ∀ i ∈ D, i ∈ D') : Same D' e e' := fun i hi => h i fun hh => hi (hs i hh)
theorem same_put (e : Env) (d : Option Tmp) (v : Value) (D : List Nat) (hd : ∀ x, d = some x → x ∈ D) : Same D e (e.put d v) := fun i hi => by
  cases d with
  | none => rfl
  | some d => rw [Env.get_put, if_neg]; rintro rfl; exact hi (hd i rfl)
theorem dstsO_cons (o : Oper) (r : List Oper) : dstsO (o :: r) = (match o.dst with | some d => d :: dstsO r | none => dstsO r) := rfl
theorem dstsO_mem {o : Oper} {r : List Oper} {x : Nat} (h : o.dst = some x) : x ∈ dstsO (o :: r) := by simp [dstsO, h]
theorem dstsO_tail {o : Oper} {r : List Oper} {x : Nat} (h : x ∈ dstsO r) : x ∈ dstsO (o :: r) := by
  simp only [dstsO]; cases o.dst <;> simp [h]
theorem dstsO_app (a b : List Oper) : ∀ x, x ∈ dstsO (a ++ b) ↔ x ∈ dstsO a ∨ x ∈ dstsO b := by
  intro x
  induction a with
  | nil => simp [dstsO]
  | cons o a ih =>
    simp only [List.cons_append, dstsO]
    cases o.dst with
    | none => simpa using ih
    | some d => simp only [List.mem_cons, ih, or_assoc]

theorem LetsOut.mono {Q Q' : Exit → Act → World → Prop} (h : ∀ e a w, Q e a w → Q' e a w) (hq : LetsOut Q) : LetsOut Q' :=
  let ⟨a, w, q⟩ := hq; ⟨a, w, h _ _ _ q⟩

section
variable {P : Program} {n : Nat} {e : Env} {w : World} {a : Act} {o : Oper}

theorem gdst_none {ops : Array Oper} (h : gdst ops o = none) : o.guard = none := by
  unfold gdst at h
  split at h
  · assumption
  · split at h <;> cases h
theorem wanted_of {ops : Array Oper} {d : Nat} {want : Bool} (h : gdst ops o = some (some d, want)) (ha : Agree n e a) :
    Region.wanted o (yielded ops a.tmps) = true ↔ e.get d = .bool want := by
  unfold gdst at h
  split at h
  · cases h
  · rename_i j b hg
    split at h
    · rename_i p hp
      simp only [Option.some.injEq, Prod.mk.injEq] at h
      obtain ⟨hd, rfl⟩ := h
      have hp' : ops[j]? = some p := by rw [← Array.getElem?_toList]; exact hp
      have ht := ha.tmp d
      simp only [Region.wanted, hg, yielded, hp', Option.bind_some, hd]
      rw [Array.getD_eq_getD_getElem?] at ht
      cases hv : a.tmps[d]? with
      | none =>
        rw [hv] at ht
        simp only [Option.getD_none] at ht
        rw [← ht]
        simp [undef]
      | some v =>
        rw [hv] at ht
        simp only [Option.getD_some] at ht
        rw [← ht]
        cases v <;> simp
    · cases h
theorem wpList_wanted {ops : Array Oper} {Q : Exit → Act → World → Prop} {r : List Oper} (hw : Region.wanted o (yielded ops a.tmps) = true) (h : o.wp P a w (wpList P ops Q r) Q) : wpList P ops Q (o :: r) a w := by
  unfold wpList
  rw [if_pos hw]
  exact .inl h
theorem wpList_unwanted {ops : Array Oper} {Q : Exit → Act → World → Prop} {r : List Oper} (hw : ¬ Region.wanted o (yielded ops a.tmps) = true) (h : wpList P ops Q r (a.put o.dst undef) w) : wpList P ops Q (o :: r) a w := by
  unfold wpList
  rw [if_neg hw]
  exact h
theorem mix_get (e : Env) (D : List Nat) (u : Nat → Value) (i : Nat) : (e.mix D u).get i = if i ∈ D then u i else e.get i := by
  simp only [Env.mix, Bool.cond_eq_ite, mem_iff]
theorem pos_none : ∀ (L : List Nat) (i j : Nat), i ∉ L → pos i L j = none
  | [], _, _, _ => rfl
  | d :: L, i, j, h => by
    simp only [List.mem_cons, not_or] at h
    simp only [pos, Bool.cond_eq_ite]
    rw [if_neg (by simp [Nat.beq_eq, h.1])]
    exact pos_none L i (j + 1) h.2
theorem inG_spec {ops : Array Oper} {d : Nat} {want : Bool} {D : List Nat} (h : inG ops d want D o = true) : ∃ x b, gdst ops o = some (some x, b) ∧ (x = d ∧ b = want ∨ x ∈ D) := by
  unfold inG at h
  split at h
  · rename_i x b hg
    refine ⟨x, b, hg, ?_⟩
    rw [Bool.cond_eq_ite] at h
    split at h
    · rename_i hx
      refine .inl ⟨by simpa [Nat.beq_eq] using hx, ?_⟩
      cases want <;> cases b <;> simp_all
    · exact .inr ((mem_iff D x).1 h)
  · cases h
theorem takeG_app (ops : Array Oper) (d : Nat) (want : Bool) : ∀ (D : List Nat) (l : List Oper), (takeG ops d want D l).1 ++ (takeG ops d want D l).2 = l
  | _, [] => rfl
  | D, o :: r => by
    simp only [takeG, Bool.cond_eq_ite]
    split
    · simp [takeG_app ops d want _ r]
    · rfl
/-- a guarded run whose guard does not hold is passed by -/
theorem skip_sound {ops : Array Oper} {d : Nat} {want : Bool} {Q : Exit → Act → World → Prop} : ∀ (l suf : List Oper) (D : List Nat) (e : Env) (a : Act), Agree n e a → lt n (dstsO (takeG ops d want D l).1) →
    e.get d ≠ .bool want → (∀ x ∈ D, e.get x = undef) →
    (∀ a', Agree n (e.mix (dstsO (takeG ops d want D l).1) fun _ => undef) a' → wpList P ops Q ((takeG ops d want D l).2 ++ suf) a' w) → wpList P ops Q (l ++ suf) a w
  | [], suf, D, e, a, ha, _, _, _, h => by
    refine h a (ha.congr (fun i => ?_) rfl)
    rw [mix_get]
    simp [takeG, dstsO]
  | o :: r, suf, D, e, a, ha, hl, hne, hD, h => by
    simp only [takeG, Bool.cond_eq_ite] at h hl
    by_cases hin : inG ops d want D o = true
    · rw [if_pos hin] at h hl
      obtain ⟨x, b, hg, hx⟩ := inG_spec hin
      have hw : ¬ Region.wanted o (yielded ops a.tmps) = true := by
        rw [wanted_of hg ha]
        rcases hx with ⟨rfl, rfl⟩ | hx
        · exact hne
        · rw [hD x hx]; simp [undef]
      have hd : ∀ x, o.dst = some x → x < n := fun x hx => hl x (dstsO_mem hx)
      refine wpList_unwanted hw (skip_sound r suf (add o.dst D) (e.put o.dst undef) (a.put o.dst undef) (ha.put hd undef) (fun x hx => hl x (dstsO_tail hx)) ?_ ?_ ?_)
      · cases ho : o.dst with
        | none => exact hne
        | some q =>
          rw [Env.get_put]
          split
          · simp [undef]
          · exact hne
      · intro x hx
        cases ho : o.dst with
        | none => rw [ho] at hx; exact hD x hx
        | some q =>
          rw [ho] at hx
          rw [Env.get_put]
          split
          · rfl
          · rename_i hne; exact hD x ((List.mem_cons.1 hx).resolve_left hne)
      · intro a' ha'
        refine h a' (ha'.congr (fun i => ?_) (by cases o.dst <;> rfl))
        rw [mix_get, mix_get]
        cases ho : o.dst with
        | none => simp [dstsO, ho, Env.put]
        | some q =>
          rw [Env.get_put]
          simp only [dstsO, ho, List.mem_cons]
          by_cases h1 : i = q
          · subst h1; simp
          · simp [h1]
    · rw [if_neg hin] at h hl
      refine h a (ha.congr (fun i => ?_) rfl)
      rw [mix_get]
      simp [dstsO]

theorem noDefO_cons {r : List Oper} (h : noDefO (o :: r) = true) : (∀ c, o.op ≠ .defer c) ∧ noDefO r = true := by
  unfold noDefO at h
  split at h
  · cases h
  · rename_i hn; exact ⟨hn, h⟩
theorem noDefO_app (x y : List Oper) : noDefO (x ++ y) = (noDefO x && noDefO y) := by
  induction x with
  | nil => simp [noDefO]
  | cons o x ih =>
    simp only [List.cons_append, noDefO]
    split <;> simp [ih]
theorem subL_spec : ∀ (L D : List Nat), subL L D = true → ∀ i ∈ L, i ∈ D
  | [], _, _, i, h => by cases h
  | a :: L, D, h, i, hi => by
    simp only [subL, Bool.cond_eq_ite] at h
    split at h
    · rename_i ha
      rcases List.mem_cons.1 hi with rfl | hi
      · exact (mem_iff D _).1 ha
      · exact subL_spec L D h i hi
    · cases h
theorem anOf_nil (k : Nat) : anOf [] k = none := rfl

def resF (tmps : Array Value) : ResultVar → Sem Value
  | .tmp t => pure (tmps.getD t undef)
  | .cell a t => do loadVar t (← asAddr (tmps.getD a undef))
theorem results_eq (fn : Func) (tmps : Array Value) : results fn tmps = (do let vs ← fn.results.mapM (resF tmps); pure (if h : vs.size = 1 then vs[0] else .tuple vs)) := by
  unfold results
  congr 1
def ltB (n : Nat) : List Nat → Bool
  | [] => true
  | d :: D => bif Nat.ble (d + 1) n then ltB n D else false
theorem ltB_spec : ∀ (D : List Nat), ltB n D = true → lt n D
  | [], _ => fun _ h => by cases h
  | d :: D, h => by
    simp only [ltB, Bool.cond_eq_ite] at h
    split at h
    · rename_i hd
      intro x hx
      rcases List.mem_cons.1 hx with rfl | hx
      · rw [Nat.ble_eq] at hd; omega
      · exact ltB_spec D h x hx
    · cases h
def nulB : List (Nat × List Nat) → Bool
  | [] => true
  | _ => false
end
end Go.V
