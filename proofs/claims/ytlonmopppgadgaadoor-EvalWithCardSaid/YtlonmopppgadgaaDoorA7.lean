/- Regions that draw their order: any order comes to the same. -/
import Derived.Test.YtlonmopppgadgaaDoorA6
set_option linter.unusedVariables false
namespace Go.V
open Go
section
variable {P : Program} {o : Oper}
theorem rem_mem {d : Option Tmp} {sk : List Nat} {x : Nat} (h : x ∈ rem d sk) : x ∈ sk ∧ d ≠ some x := by
  cases d with
  | none => exact ⟨h, by simp⟩
  | some d =>
    simp only [rem, List.mem_filter, Bool.cond_eq_ite] at h
    refine ⟨h.1, fun hh => ?_⟩
    simp only [Option.some.injEq] at hh
    subst hh
    simp at h
def Rd (ops : Array Oper) (D : Nat → Prop) (i : Nat) : Prop := ¬ D i ∧ ∃ o, ops[i]? = some o ∧ ∀ y ∈ ons o.after.toList, D y
def ins (i : Nat) (D : Nat → Prop) : Nat → Prop := fun x => x = i ∨ D x
inductive Tr (ops : Array Oper) (j : Nat) : Nat → Prop
  | edge {i : Nat} {o : Oper} (h : ops[i]? = some o) (hj : j ∈ ons o.after.toList) : Tr ops j i
  | step {i k : Nat} {o : Oper} (h : ops[i]? = some o) (hk : k ∈ ons o.after.toList) (ht : Tr ops j k) : Tr ops j i
def PlanOk (P : Program) (ops : Array Oper) (S : Nat → Prop) : (Nat → Prop) → Plan → Prop
  | D, [] => ∀ i, ¬ Rd ops D i
  | D, (i, kd) :: p => Rd ops D i ∧ (S i → kd = 5) ∧ (kd = 0 ∨ (kd = 1 ∧ ∀ q ∈ p, Tr ops i q.1) ∨ (kd = 2 ∧ (∀ q ∈ p, Tr ops i q.1) ∧ ∀ j, D j → Tr ops j i ∨ pureAt ops.toList j = true) ∨ (3 ≤ kd ∧ kd ≠ 5 ∧ (∀ q ∈ p, Tr ops i q.1) ∧ (allocAt ops.toList i = true ∨ (kd = 4 ∧ ∀ j, D j → Tr ops j i ∨ pureAt ops.toList j = true ∨ S j))) ∨ (kd = 5 ∧ pureAt ops.toList i = false) ∨ (kd = 6 ∧ ∀ q ∈ p, Tr ops i q.1 ∨ newAt P ops.toList q.1 = true)) ∧ PlanOk P ops S (ins i D) p
def rmA (i : Nat) : Plan → Plan
  | [] => []
  | (j, kd) :: p => if i = j then p else (j, kd) :: rmA i p
theorem rmA_sub (i : Nat) : ∀ (p : Plan), ∀ q ∈ rmA i p, q ∈ p
  | [], q, h => by cases h
  | (j, kd) :: p, q, h => by
    unfold rmA at h
    split at h
    · exact List.mem_cons_of_mem _ h
    · rcases List.mem_cons.1 h with rfl | h
      · exact List.mem_cons_self
      · exact List.mem_cons_of_mem _ (rmA_sub i p q h)
def Shut (ops : Array Oper) (D : Nat → Prop) : Prop := ∀ x o, D x → ops[x]? = some o → ∀ y ∈ ons o.after.toList, D y

theorem tr_shut {ops : Array Oper} {D : Nat → Prop} (hD : Shut ops D) {i j : Nat} (ht : Tr ops j i) : (∀ o, ops[i]? = some o → ∀ y ∈ ons o.after.toList, D y) → D j := by
  induction ht with
  | edge h hj => exact fun hi => hi _ h _ hj
  | step h hk ht ih => exact fun hi => ih fun o ho y hy => hD _ o (hi _ h _ hk) ho y hy
theorem ins_comm (i j : Nat) (D : Nat → Prop) : ins i (ins j D) = ins j (ins i D) := by
  funext x
  simp only [ins, ← or_assoc, or_comm (a := x = i)]

/-- is the operation done there? -/
def WA (ops : Array Oper) (o : Oper) (e : AEnv) (b : Bool) : Prop :=
  match gdst ops o with
  | none => b = true
  | some (some d, want) => ∃ v, e.get d = .val v ∧ (b = true ↔ v = .bool want)
  | _ => False
theorem rd_mem {P : Program} {ops : Array Oper} {S : Nat → Prop} {i : Nat} : ∀ (p : Plan) (D : Nat → Prop), PlanOk P ops S D p → Rd ops D i → ∃ kd, (i, kd) ∈ p
  | [], D, h, hi => absurd hi (h i)
  | (j, kd) :: p, D, h, hi => by
    by_cases hij : i = j
    · subst hij; exact ⟨kd, List.mem_cons_self⟩
    · obtain ⟨q, hq⟩ := rd_mem p (ins j D) h.2.2.2 ⟨fun hx => hx.elim hij hi.1, by obtain ⟨o, ho, he⟩ := hi.2; exact ⟨o, ho, fun y hy => .inr (he y hy)⟩⟩
      exact ⟨q, List.mem_cons_of_mem _ hq⟩
theorem still_cons {ρ : Operand → D} {L : List Bx} {ae : AE} (h : StillA P o ρ L ae) (M : List Bx) : StillA P o ρ (M ++ L) ae := by
  intro F w ρc aw hr
  have hp : (M ++ L).Perm (L ++ M) := (List.perm_append_comm (l₁ := M) (l₂ := L))
  have aw1 := aw.perm hp
  refine (h F w ρc aw1.left hr).mono ?_ ?_
  · rintro v w' ⟨d, F', L', ⟨h1, rfl⟩, h2, h3, h4⟩
    obtain ⟨q1, q2⟩ := aw1.frame h2 h3
    exact ⟨d, F', _, ⟨h1, rfl⟩, q2.perm hp.symm hp.symm, q1.perm hp.symm, h4⟩
  · rintro c w' ⟨d, F', L', v, ⟨h1, rfl⟩, h0, h2, h3, h4⟩
    obtain ⟨q1, q2⟩ := aw1.frame h2 h3
    exact ⟨d, F', _, v, ⟨h1, rfl⟩, h0, q2.perm hp.symm hp.symm, q1.perm hp.symm, h4⟩
theorem still_mem {ρ : Operand → D} {L : List Bx} {x : Bx} {ae : AE} (h : StillA P o ρ [x] ae) (hx : x ∈ L) : StillA P o ρ L ae := by
  obtain ⟨s, t, rfl⟩ := List.append_of_mem hx
  have hp : (s ++ x :: t).Perm ((s ++ t) ++ [x]) := by
    refine List.perm_middle.trans ?_
    exact (List.perm_append_comm (l₁ := [x]) (l₂ := s ++ t))
  have h2 := still_cons h (s ++ t)
  intro F w ρc aw hr
  refine (h2 F w ρc (aw.perm hp) hr).mono ?_ ?_
  · rintro v w' ⟨d, F', L', ⟨h1, rfl⟩, h2, h3, h4⟩
    exact ⟨d, F', _, ⟨h1, rfl⟩, h2.perm hp.symm hp.symm, h3.perm hp.symm, h4⟩
  · rintro c w' ⟨d, F', L', v, ⟨h1, rfl⟩, h0, h2, h3, h4⟩
    exact ⟨d, F', _, v, ⟨h1, rfl⟩, h0, h2.perm hp.symm hp.symm, h3.perm hp.symm, h4⟩
/-- it gives that, also among one more own block; and among any, if it looks at none -/
def StillK (P : Program) (o : Oper) (ρ : Operand → D) (L : List Bx) (d : D) : Prop := StillA P o ρ L (.ret d) ∧ (pureOp o.op = true → ∀ L', StillA P o ρ L' (.ret d))
theorem StillK.congr {ρ ρ' : Operand → D} {L : List Bx} {d : D} (h : StillK P o ρ L d) (he : ∀ x ∈ o.op.operands.toList, ρ x = ρ' x) : StillK P o ρ' L d :=
  ⟨h.1.congr he, fun hp L' => (h.2 hp L').congr he⟩
theorem StillK.to {ρ : Operand → D} {L L' : List Bx} {d : D} (h : StillK P o ρ L d) (hl : L' = L ∨ pureOp o.op = true ∨ ∃ M, L' = M ++ L) : StillK P o ρ L' d := by
  rcases hl with rfl | hp | ⟨M, rfl⟩
  · exact h
  · exact ⟨h.2 hp L', h.2⟩
  · exact ⟨still_cons h.1 M, h.2⟩
def runA (P : Program) (ops : Array Oper) (Q : AX → AEnv → List Bx → Prop) : Plan → AEnv → List Bx → Prop
  | [], ae, L => Q .normal ae L
  | (i, kd) :: p, ae, L => ∃ o, ops[i]? = some o ∧
     ((WA ops o ae true ∧ (kd < 2 ∨ kd = 6) ∧ ∃ d, StillK P o ae.ev L d ∧ runA P ops Q p (ae.put o.dst d) L) ∨
      (WA ops o ae true ∧ (kd = 1 ∨ kd = 6) ∧ ∃ d, StillA P o ae.ev L (.pan d) ∧ ∃ M L2, L = M ++ L2 ∧ ∃ e', e'.dfr = ae.dfr ∧ Q (.panic d) e' L2) ∨
      (WA ops o ae true ∧ (2 ≤ kd ∧ kd ≠ 5 ∧ kd ≠ 6) ∧ GoA P o ae.ev L (fun v L' => ((allocAt ops.toList i = true → ∃ M, L' = M ++ L) ∧ (kd = 4 → ∀ x ∈ L, x.k = .box → x ∈ L')) ∧ runA P ops Q p (ae.put o.dst v) L') (fun c L' => Q (.panic c) ae L')) ∨
      (WA ops o ae true ∧ kd = 5 ∧ ∃ d x, x ∈ L ∧ x.k = .box ∧ StillA P o ae.ev [x] (.ret d) ∧ runA P ops Q p (ae.put o.dst d) L) ∨
      (WA ops o ae false ∧ runA P ops Q p (ae.put o.dst (.val undef)) L))
theorem aguard_spec {ops : Array Oper} {sk : List Nat} {e : AEnv} {yes no : AEnv → Prop} (h : aguard ops sk o e yes no) (hsk : ∀ d ∈ sk, e.get d = .val undef) :
    (WA ops o e true ∧ yes e) ∨ (WA ops o e false ∧ no e) := by
  unfold aguard at h
  cases hg : gdst ops o with
  | none => simp only [hg] at h; exact .inl ⟨by simp [WA, hg], h⟩
  | some x =>
    obtain ⟨d, want⟩ := x
    cases d with
    | none => simp only [hg] at h
    | some d =>
      simp only [hg, pcond_eq, Bool.cond_eq_ite] at h
      split at h
      · rename_i hm
        refine .inr ⟨?_, h⟩
        simp only [WA, hg]
        exact ⟨undef, hsk d ((mem_iff sk d).1 hm), by simp [undef]⟩
      · unfold acnd at h
        split at h
        · rename_i t ht
          have hp : ∀ b, b = t → e.put (some d) (.b b) = e := fun b hb => aput_same (by rw [ht, hb])
          cases t <;> cases want <;> simp only [cond_true, cond_false, Bool.false_eq_true, if_true, if_false] at h <;> rw [hp _ rfl] at h
          · exact .inl ⟨by simp only [WA, hg]; exact ⟨_, ht, by simp⟩, h⟩
          · exact .inr ⟨by simp only [WA, hg]; exact ⟨_, ht, by simp⟩, h⟩
          · exact .inr ⟨by simp only [WA, hg]; exact ⟨_, ht, by simp⟩, h⟩
          · exact .inl ⟨by simp only [WA, hg]; exact ⟨_, ht, by simp⟩, h⟩
        · exact h.elim
theorem ask_put {sk : List Nat} {e : AEnv} (hsk : ∀ d ∈ sk, e.get d = .val undef) (d : Option Tmp) (v : D) : ∀ x ∈ rem d sk, (e.put d v).get x = .val undef := by
  intro x hx
  obtain ⟨h1, h2⟩ := rem_mem hx
  cases d with
  | none => exact hsk x h1
  | some d => rw [AEnv.get_put, if_neg (fun hh => h2 (by rw [hh]))]; exact hsk x h1
theorem ask_add {sk : List Nat} {e : AEnv} (hsk : ∀ d ∈ sk, e.get d = .val undef) (d : Option Tmp) : ∀ x ∈ add d sk, (e.put d (.val undef)).get x = .val undef := by
  intro x hx
  cases d with
  | none => exact hsk x hx
  | some d =>
    rw [AEnv.get_put]
    split
    · rfl
    · rename_i h; exact hsk x ((List.mem_cons.1 hx).resolve_left h)
theorem aonly_lt {kd : Nat} (hk : kd < 2) {L L' : List Bx} {X : Prop} (h : aonly kd L L' X) : X := by
  unfold aonly at h
  split at h
  · omega
  · exact h
def strip : Plan → Plan
  | [] => []
  | (i, kd) :: p => (i, kd % 10) :: strip p
theorem strip_mem : ∀ {p : Plan} {q : Nat × Nat}, q ∈ strip p → ∃ q' ∈ p, q'.1 = q.1
  | (i, kd) :: p, q, h => by
    rw [strip] at h
    rcases List.mem_cons.1 h with rfl | h
    · exact ⟨_, List.mem_cons_self, rfl⟩
    · obtain ⟨q', h1, h2⟩ := strip_mem h
      exact ⟨q', List.mem_cons_of_mem _ h1, h2⟩
theorem asel_imp {dec x : Nat} {f : AEnv → Prop} {e : AEnv} (h : asel dec x f e) : f e := by
  unfold asel at h
  rw [pcond_eq, Bool.cond_eq_ite] at h
  split at h
  · exact h.elim
  · exact h
theorem run_of_draw {ops : Array Oper} {Q : AX → AEnv → List Bx → Prop} : ∀ (p : Plan) (sk : List Nat) (e : AEnv) (L : List Bx),
    adraw P ops p sk e L Q → (∀ d ∈ sk, e.get d = .val undef) → runA P ops Q (strip p) e L
  | [], _, _, _, h, _ => h
  | (i, kd) :: p, sk, e, L, h, hsk => by
    unfold adraw at h
    simp only [aopQ_eq] at h
    rw [strip]
    revert h
    generalize kd % 10 = kd', kd / 10 = dec
    clear kd
    intro h
    revert h
    generalize hkd : kd' = kd
    clear hkd kd'
    intro h
    split at h
    case h_2 => exact h.elim
    rename_i o ho
    have ho' : ops[i]? = some o := by rw [← Array.getElem?_toList]; exact ho
    refine ⟨o, ho', ?_⟩
    rcases aguard_spec h hsk with ⟨hw, hy⟩ | ⟨hw, hn⟩
    rotate_left
    · exact .inr (.inr (.inr (.inr ⟨hw, run_of_draw p _ _ _ (asel_imp hn) (ask_add hsk _)⟩)))
    have hy := asel_imp hy
    by_cases h5 : kd = 5
    · subst h5
      obtain ⟨x, hx, hb, hy⟩ := hy
      obtain ⟨ae, h1, h2⟩ := aone hy
      cases ae with
      | ret d => exact .inr (.inr (.inr (.inl ⟨hw, rfl, d, x, hx, hb, goA_of h1, run_of_draw p _ _ _ h2 (ask_put hsk _ _)⟩)))
      | pan d => exact h2.elim
    by_cases h6 : kd = 6
    · subst h6
      by_cases hpu : pureOp o.op = true
      · obtain ⟨d, h1, h2⟩ := aonep hpu hy
        exact .inl ⟨hw, .inr rfl, d, ⟨goA_of (h1 L), fun _ L' => goA_of (h1 L')⟩, run_of_draw p _ _ _ h2 (ask_put hsk _ _)⟩
      obtain ⟨ae, h1, h2⟩ := aone hy
      cases ae with
      | ret d => exact .inl ⟨hw, .inr rfl, d, ⟨goA_of h1, fun hh => absurd hh hpu⟩, run_of_draw p _ _ _ h2 (ask_put hsk _ _)⟩
      | pan d => exact .inr (.inl ⟨hw, .inr rfl, d, goA_of h1, [], L, rfl, e, rfl, h2⟩)
    · have hy : aopK P (Nat.blt kd 2) o.type o.op e.ev L (fun v L' => aonly kd L L' (adraw P ops p (rem o.dst sk) (e.put o.dst v) L' Q)) (match (generalizing := false) kd with | 0 => fun _ _ => False | _ => fun c L' => Q (.panic c) e L') := by
        clear h
        split at hy
        · exact absurd rfl h5
        · exact absurd rfl h6
        · exact hy
      by_cases hk : kd < 2
      · have hb : Nat.blt kd 2 = true := by simp [Nat.blt_eq]; exact hk
        rw [hb] at hy
        by_cases hpu : pureOp o.op = true
        · obtain ⟨d, h1, h2⟩ := aonep hpu hy
          exact .inl ⟨hw, .inl hk, d, ⟨goA_of (h1 L), fun _ L' => goA_of (h1 L')⟩, run_of_draw p _ _ _ (aonly_lt hk h2) (ask_put hsk _ _)⟩
        obtain ⟨ae, h1, h2⟩ := aone hy
        cases ae with
        | ret d => exact .inl ⟨hw, .inl hk, d, ⟨goA_of h1, fun hh => absurd hh hpu⟩, run_of_draw p _ _ _ (aonly_lt hk h2) (ask_put hsk _ _)⟩
        | pan d =>
          match kd, hk, h2 with
          | 0, _, h2 => exact h2.elim
          | 1, _, h2 => exact .inr (.inl ⟨hw, .inl rfl, d, goA_of h1, [], L, rfl, e, rfl, h2⟩)
      · match kd, hk, hy with
        | 0, hk, _ => exact absurd (by decide) hk
        | 1, hk, _ => exact absurd (by decide) hk
        | kd + 2, hk, hy =>
          have hb : Nat.blt (kd + 2) 2 = false := by
            rw [Bool.eq_false_iff]; intro hh; rw [Nat.blt_eq] at hh; omega
          rw [hb] at hy
          refine .inr (.inr (.inl ⟨hw, ⟨by omega, h5, h6⟩, ?_⟩))
          have fin : ∀ v L', aonly (kd + 2) L L' (adraw P ops p (rem o.dst sk) (e.put o.dst v) L' Q) → runA P ops Q (strip p) (e.put o.dst v) L' ∧ (kd + 2 = 4 → ∀ x ∈ L, x.k = .box → x ∈ L') := by
            intro v L' h
            unfold aonly at h
            split at h
            · exact ⟨run_of_draw p _ _ _ h.2 (ask_put hsk _ _), fun _ => h.1⟩
            · next hne => exact ⟨run_of_draw p _ _ _ h (ask_put hsk _ _), fun hh => absurd hh hne⟩
          by_cases hal : allocAt ops.toList i = true
          · have hop : ∃ t, o.op = .alloc t := by
              unfold allocAt at hal
              rw [ho] at hal
              simp only at hal
              split at hal
              · rename_i t ht; exact ⟨t, ht⟩
              · cases hal
            obtain ⟨t, ht⟩ := hop
            have hz : aopK P false o.type o.op e.ev L (fun v L' => ((allocAt ops.toList i = true → ∃ M, L' = M ++ L) ∧ (kd + 2 = 4 → ∀ x ∈ L, x.k = .box → x ∈ L')) ∧ runA P ops Q (strip p) (e.put o.dst v) L') (fun c L' => Q (.panic c) e L') := by
              rw [ht] at hy ⊢
              simp only [aopK, cond_false] at hy ⊢
              refine zT_mono hy fun z hz => ?_
              rw [Bool.cond_eq_ite] at hz ⊢
              split at hz
              · rename_i hzo
                rw [if_pos hzo]
                exact fun b => ⟨⟨fun _ => ⟨[_], rfl⟩, (fin _ _ (hz b)).2⟩, (fin _ _ (hz b)).1⟩
              · exact hz.elim
            exact goA_of hz
          · exact (goA_of hy).mono (fun d L' h => ⟨⟨fun hh => absurd hh hal, (fin _ _ h).2⟩, (fin _ _ h).1⟩) (fun _ _ h => h)
theorem gdst_looks {ops : Array Oper} {d : Nat} {want : Bool} (h : gdst ops o = some (some d, want)) : d ∈ o.looksAt ops := by
  unfold gdst at h
  split at h
  · cases h
  · rename_i j b hg
    split at h
    · rename_i p hp
      simp only [Option.some.injEq, Prod.mk.injEq] at h
      have hp' : ops[j]? = some p := by rw [← Array.getElem?_toList]; exact hp
      refine List.mem_append_right _ ?_
      simp [hg, hp', h.1]
    · cases h
theorem aput_other {e : AEnv} {d : Option Tmp} {v : D} {t : Nat} (h : d ≠ some t) : (e.put d v).get t = e.get t := by
  cases d with
  | none => rfl
  | some d => rw [AEnv.get_put, if_neg (fun hh => h (by rw [hh]))]
theorem WA_put {ops : Array Oper} {e : AEnv} {d : Option Tmp} {v : D} {b : Bool} (h : ∀ x, d = some x → x ∉ o.looksAt ops) : WA ops o (e.put d v) b ↔ WA ops o e b := by
  unfold WA
  cases hg : gdst ops o with
  | none => exact Iff.rfl
  | some x =>
    obtain ⟨t, want⟩ := x
    cases t with
    | none => exact Iff.rfl
    | some t =>
      simp only
      rw [aput_other fun hh => h t hh (gdst_looks hg)]
theorem ev_put {ops : Array Oper} {e : AEnv} {d : Option Tmp} {v : D} (h : ∀ x, d = some x → x ∉ o.looksAt ops) : ∀ x ∈ o.op.operands.toList, (e.put d v).ev x = e.ev x := by
  intro x hx
  cases x with
  | tmp t =>
    show (e.put d v).get t = e.get t
    refine aput_other fun hh => h t hh (List.mem_append_left _ ?_)
    rw [List.mem_filterMap]
    exact ⟨.tmp t, hx, rfl⟩
  | const => rfl
  | global => rfl
  | func => rfl
theorem aput_comm (e : AEnv) {c d : Option Tmp} (u v : D) (h : ∀ x, c = some x → d ≠ some x) : (e.put c u).put d v = (e.put d v).put c u := by
  cases c with
  | none => rfl
  | some c =>
    cases d with
    | none => rfl
    | some d =>
      have hne : c ≠ d := fun hh => h c rfl (by rw [hh])
      simp only [AEnv.put, AEnv.mk.injEq, and_true]
      funext i
      simp only [Bool.cond_eq_ite, Nat.beq_eq]
      by_cases h1 : i = c
      · by_cases h2 : i = d
        · exact absurd (h1.symm.trans h2) hne
        · rw [if_neg h2, if_pos h1, if_pos h1]
      · by_cases h2 : i = d
        · rw [if_pos h2, if_neg h1, if_pos h2]
        · rw [if_neg h2, if_neg h1, if_neg h1, if_neg h2]
/-- what was done ahead stays so behind what turns L to L' -/
def CM (ops : Array Oper) (S : Nat → Prop) (j : Nat) (L L' : List Bx) : Prop :=
  pureAt ops.toList j = true ∨ (∃ M, L' = M ++ L) ∨ (S j ∧ ∀ x ∈ L, x.k = .box → x ∈ L')
theorem planRm {P : Program} {ops : Array Oper} {S : Nat → Prop} {i : Nat} : ∀ (p : Plan) (D : Nat → Prop), PlanOk P ops S D p → Shut ops D → Rd ops D i → PlanOk P ops S (ins i D) (rmA i p)
  | [], D, hp, _, hi => absurd hi (hp i)
  | (j, kd) :: p, D, hp, hD, hi => by
    obtain ⟨h1, hS, h2, h3⟩ := hp
    by_cases hij : i = j
    · subst hij
      simp only [rmA, if_true]
      exact h3
    · simp only [rmA, if_neg hij]
      have nTr : ¬ Tr ops j i := fun ht => h1.1 (tr_shut hD ht fun o ho y hy => by
        obtain ⟨o', ho', he⟩ := hi.2
        rw [ho'] at ho; injection ho with ho; subst ho
        exact he y hy)
      have hD' : Shut ops (ins j D) := fun x o hx ho y hy => by
        rcases hx with rfl | hx
        · obtain ⟨o', ho', he⟩ := h1.2
          rw [ho'] at ho
          injection ho with ho
          subst ho
          exact .inr (he y hy)
        · exact .inr (hD x o hx ho y hy)
      have hi' : Rd ops (ins j D) i := ⟨fun hx => hx.elim hij hi.1, by obtain ⟨o, ho, he⟩ := hi.2; exact ⟨o, ho, fun y hy => .inr (he y hy)⟩⟩
      obtain ⟨ki, hki⟩ := rd_mem p _ h3 hi'
      have notAll : ¬ ∀ q ∈ p, Tr ops j q.1 := fun hh => nTr (hh _ hki)
      have hsub := rmA_sub i p
      refine ⟨⟨fun hx => hx.elim (fun hh => hij hh.symm) h1.1, by obtain ⟨o, ho, he⟩ := h1.2; exact ⟨o, ho, fun y hy => .inr (he y hy)⟩⟩, hS, ?_, by rw [ins_comm]; exact planRm p (ins j D) h3 hD' hi'⟩
      rcases h2 with h2 | h2 | h2 | h2 | h2 | h2
      · exact .inl h2
      · exact absurd h2.2 notAll
      · exact absurd h2.2.1 notAll
      · exact absurd h2.2.2.1 notAll
      · exact .inr (.inr (.inr (.inr (.inl h2))))
      · exact .inr (.inr (.inr (.inr (.inr ⟨h2.1, fun q hq => h2.2 q (hsub q hq)⟩))))
/-- what may come next may come first -/
theorem firstA {ops : Array Oper} {S : Nat → Prop} {Q : AX → AEnv → List Bx → Prop} {i : Nat}
    (hap : ∀ x y ox oy, ops[x]? = some ox → ops[y]? = some oy → x ≠ y → ox.apart ops oy = true ∨ Tr ops x y ∨ Tr ops y x) :
    ∀ (p : Plan) (D : Nat → Prop) (e : AEnv) (L : List Bx), PlanOk P ops S D p → runA P ops Q p e L → Shut ops D → Rd ops D i →
    PlanOk P ops S (ins i D) (rmA i p) ∧ ∃ o, ops[i]? = some o ∧
      ((WA ops o e true ∧ ∃ d, StillK P o e.ev L d ∧ runA P ops Q (rmA i p) (e.put o.dst d) L) ∨
       (WA ops o e true ∧ ∃ d, StillA P o e.ev L (.pan d) ∧ ∃ M L2, L = M ++ L2 ∧ ∃ e', e'.dfr = e.dfr ∧ Q (.panic d) e' L2) ∨
       (WA ops o e true ∧ GoA P o e.ev L (fun v L' => (∀ j, D j → Tr ops j i ∨ CM ops S j L L') ∧ runA P ops Q (rmA i p) (e.put o.dst v) L') (fun c L' => ∃ e', e'.dfr = e.dfr ∧ Q (.panic c) e' L')) ∨
       (WA ops o e false ∧ runA P ops Q (rmA i p) (e.put o.dst (.val undef)) L))
  | [], D, e, L, hp, _, _, hi => absurd hi (hp i)
  | (j, kd) :: p, D, e, L, hp, h, hD, hi => by
    obtain ⟨h1, hS, h2, h3⟩ := hp
    obtain ⟨oj, hoj, hj⟩ := h
    have hpure : pureAt ops.toList j = pureOp oj.op := by
      unfold pureAt
      rw [Array.getElem?_toList, hoj]
    by_cases hij : i = j
    · subst hij
      simp only [rmA, if_true]
      refine ⟨h3, oj, hoj, ?_⟩
      rcases hj with ⟨a, b, d, c, r⟩ | ⟨a, b, d, c, r⟩ | ⟨a, b, r⟩ | ⟨a, b, d, x, hx, hbx, c, r⟩ | ⟨a, r⟩
      · exact .inl ⟨a, d, c, r⟩
      · exact .inr (.inl ⟨a, d, c, r⟩)
      · refine .inr (.inr (.inl ⟨a, r.mono (fun v L' h => ⟨fun q hq => ?_, h.2⟩) (fun _ _ h => ⟨e, rfl, h⟩)⟩))
        rcases h2 with h2 | h2 | h2 | h2 | h2 | h2
        · omega
        · omega
        · exact (h2.2.2 q hq).imp id .inl
        · rcases h2.2.2.2 with h2 | ⟨h2, h4⟩
          · exact .inr (.inr (.inl (h.1.1 h2)))
          · rcases h4 q hq with h4 | h4 | h4
            · exact .inl h4
            · exact .inr (.inl h4)
            · exact .inr (.inr (.inr ⟨h4, h.1.2 h2⟩))
        · omega
        · omega
      · refine .inl ⟨a, d, ⟨still_mem c hx, fun hh => ?_⟩, r⟩
        rcases h2 with h2 | h2 | h2 | h2 | h2 | h2
        · omega
        · omega
        · omega
        · omega
        · rw [← hpure, h2.2] at hh; cases hh
        · omega
      · exact .inr (.inr (.inr ⟨a, r⟩))
    · simp only [rmA, if_neg hij]
      have nTr : ¬ Tr ops j i := fun ht => h1.1 (tr_shut hD ht fun o ho y hy => by
        obtain ⟨o', ho', he⟩ := hi.2
        rw [ho'] at ho; injection ho with ho; subst ho
        exact he y hy)
      have nTr' : ¬ Tr ops i j := fun ht => hi.1 (tr_shut hD ht fun o ho y hy => by
        obtain ⟨o', ho', he⟩ := h1.2
        rw [ho'] at ho; injection ho with ho; subst ho
        exact he y hy)
      have hD' : Shut ops (ins j D) := fun x o hx ho y hy => by
        rcases hx with rfl | hx
        · obtain ⟨o', ho', he⟩ := h1.2
          rw [ho'] at ho
          injection ho with ho
          subst ho
          exact .inr (he y hy)
        · exact .inr (hD x o hx ho y hy)
      have hi' : Rd ops (ins j D) i := ⟨fun hx => hx.elim hij hi.1, by obtain ⟨o, ho, he⟩ := hi.2; exact ⟨o, ho, fun y hy => .inr (he y hy)⟩⟩
      obtain ⟨ki, hki⟩ := rd_mem p _ h3 hi'
      have notAll : ¬ ∀ q ∈ p, Tr ops j q.1 := fun hh => nTr (hh _ hki)
      have k0 : kd = 0 ∨ (kd = 5 ∧ pureAt ops.toList j = false) ∨ (kd = 6 ∧ ∀ q ∈ p, Tr ops j q.1 ∨ newAt P ops.toList q.1 = true) := by
        rcases h2 with h2 | h2 | h2 | h2 | h2
        · exact .inl h2
        · exact absurd h2.2 notAll
        · exact absurd h2.2.1 notAll
        · exact absurd h2.2.2.1 notAll
        · exact .inr h2
      have n6 : kd = 6 → newAt P ops.toList i = true := fun hk => by
        rcases k0 with h | h | h
        · omega
        · omega
        · exact (h.2 _ hki).resolve_left nTr
      have hsub := rmA_sub i p
      have kR : kd = 0 ∨ (kd = 1 ∧ ∀ q ∈ rmA i p, Tr ops j q.1) ∨ (kd = 2 ∧ (∀ q ∈ rmA i p, Tr ops j q.1) ∧ ∀ j', ins i D j' → Tr ops j' j ∨ pureAt ops.toList j' = true) ∨ (3 ≤ kd ∧ kd ≠ 5 ∧ (∀ q ∈ rmA i p, Tr ops j q.1) ∧ (allocAt ops.toList j = true ∨ (kd = 4 ∧ ∀ j', ins i D j' → Tr ops j' j ∨ pureAt ops.toList j' = true ∨ S j'))) ∨ (kd = 5 ∧ pureAt ops.toList j = false) ∨ (kd = 6 ∧ ∀ q ∈ rmA i p, Tr ops j q.1 ∨ newAt P ops.toList q.1 = true) := by
        rcases k0 with h | h | h
        · exact .inl h
        · exact .inr (.inr (.inr (.inr (.inl h))))
        · exact .inr (.inr (.inr (.inr (.inr ⟨h.1, fun q hq => h.2 q (hsub q hq)⟩))))
      have step : ∀ dj, runA P ops Q p (e.put oj.dst dj) L → (∀ (oi : Oper) (di : V.D) (q : Plan) (L' : List Bx), (L' = L ∨ CM ops S j L L') → ops[i]? = some oi → runA P ops Q q ((e.put oi.dst di).put oj.dst dj) L' → runA P ops Q ((j, kd) :: q) (e.put oi.dst di) L') →
          PlanOk P ops S (ins i D) ((j, kd) :: rmA i p) ∧ ∃ o, ops[i]? = some o ∧
          ((WA ops o e true ∧ ∃ d, StillK P o e.ev L d ∧ runA P ops Q ((j, kd) :: rmA i p) (e.put o.dst d) L) ∨
           (WA ops o e true ∧ ∃ d, StillA P o e.ev L (.pan d) ∧ ∃ M L2, L = M ++ L2 ∧ ∃ e', e'.dfr = e.dfr ∧ Q (.panic d) e' L2) ∨
           (WA ops o e true ∧ GoA P o e.ev L (fun v L' => (∀ j, D j → Tr ops j i ∨ CM ops S j L L') ∧ runA P ops Q ((j, kd) :: rmA i p) (e.put o.dst v) L') (fun c L' => ∃ e', e'.dfr = e.dfr ∧ Q (.panic c) e' L')) ∨
           (WA ops o e false ∧ runA P ops Q ((j, kd) :: rmA i p) (e.put o.dst (.val undef)) L)) := by
        intro dj hr back
        obtain ⟨hq, oi, hoi, hres⟩ := firstA hap p (ins j D) (e.put oj.dst dj) L h3 hr hD' hi'
        have hapt : oj.apart ops oi = true := by
          rcases hap j i oj oi hoj hoi (fun hh => hij hh.symm) with h | h | h
          · exact h
          · exact absurd h nTr
          · exact absurd h nTr'
        obtain ⟨a1, a2, a3⟩ := Oper.apart_spec hapt
        refine ⟨⟨⟨fun hx => hx.elim (fun hh => hij hh.symm) h1.1, by obtain ⟨o, ho, he⟩ := h1.2; exact ⟨o, ho, fun y hy => .inr (he y hy)⟩⟩, hS, kR, by rw [ins_comm]; exact hq⟩, oi, hoi, ?_⟩
        rcases hres with ⟨w, d, s, r⟩ | ⟨w, d, s, r⟩ | ⟨w, r⟩ | ⟨w, r⟩
        · refine .inl ⟨(WA_put a1).1 w, d, s.congr (ev_put a1), back oi d _ _ (.inl rfl) hoi ?_⟩
          rw [aput_comm e d dj (fun x hx hh => a2 x hh hx)]; exact r
        · obtain ⟨M, L2, hM, e', he', hq'⟩ := r
          exact .inr (.inl ⟨(WA_put a1).1 w, d, s.congr (ev_put a1), M, L2, hM, e', he'.trans (AEnv.dfr_put ..), hq'⟩)
        · refine .inr (.inr (.inl ⟨(WA_put a1).1 w, (r.congr (ev_put a1)).mono ?_ ?_⟩))
          · rintro d L' ⟨q1, q2⟩
            refine ⟨fun j' hj' => q1 j' (.inr hj'), back oi d _ _ (.inr ((q1 j (.inl rfl)).resolve_left nTr)) hoi ?_⟩
            rw [aput_comm e d dj (fun x hx hh => a2 x hh hx)]; exact q2
          · rintro c L' ⟨e', he', hq'⟩
            exact ⟨e', he'.trans (AEnv.dfr_put ..), hq'⟩
        · refine .inr (.inr (.inr ⟨(WA_put a1).1 w, back oi _ _ _ (.inl rfl) hoi ?_⟩))
          rw [aput_comm e (.val undef) dj (fun x hx hh => a2 x hh hx)]; exact r
      have apt : ∀ oi, ops[i]? = some oi → ∀ x, oi.dst = some x → x ∉ oj.looksAt ops := by
        intro oi hoi
        have hapt : oj.apart ops oi = true := by
          rcases hap j i oj oi hoj hoi (fun hh => hij hh.symm) with h | h | h
          · exact h
          · exact absurd h nTr
          · exact absurd h nTr'
        exact (Oper.apart_spec hapt).2.2
      rcases hj with ⟨a, b, d, c, r⟩ | ⟨a, b, d, c, r⟩ | ⟨a, b, r⟩ | ⟨a, b, d, x, hx, hbx, c, r⟩ | ⟨a, r⟩
      · refine step d r fun oi di q L' hl hoi hr => ⟨oj, hoj, .inl ⟨(WA_put (apt oi hoi)).2 a, b, d, (c.to ?_).congr fun x hx => (ev_put (apt oi hoi) x hx).symm, hr⟩⟩
        rcases hl with hl | hl | hl | hl
        · exact .inl hl
        · rw [hpure] at hl; exact .inr (.inl hl)
        · exact .inr (.inr hl)
        · have := hS hl.1; omega
      · rcases b with b | b
        · omega
        · -- it panics, and a block is made ahead
          have hn := n6 b
          obtain ⟨M, L2, hM, e', he', hq'⟩ := r
          obtain ⟨oi, hoi, _⟩ := hi.2
          obtain ⟨t, hgu, hop, hzb⟩ : ∃ t, oi.guard = none ∧ oi.op = .alloc t ∧ zbT P t = true := by
            unfold newAt at hn
            rw [Array.getElem?_toList, hoi] at hn
            simp only at hn
            split at hn
            · rename_i t hg ho; exact ⟨t, hg, ho, hn⟩
            · cases hn
          refine ⟨⟨⟨fun hx => hx.elim (fun hh => hij hh.symm) h1.1, by obtain ⟨o, ho, he⟩ := h1.2; exact ⟨o, ho, fun y hy => .inr (he y hy)⟩⟩, hS, kR, by rw [ins_comm]; exact planRm p (ins j D) h3 hD' hi'⟩, oi, hoi, .inr (.inr (.inl ⟨?_, ?_⟩))⟩
          · have hg : gdst ops oi = none := by unfold gdst; rw [hgu]
            simp only [WA, hg]
          · have hz : aopK P false oi.type oi.op e.ev L (fun v L' => (∀ j', D j' → Tr ops j' i ∨ CM ops S j' L L') ∧ runA P ops Q ((j, kd) :: rmA i p) (e.put oi.dst v) L') (fun c L' => ∃ e', e'.dfr = e.dfr ∧ Q (.panic c) e' L') := by
              rw [hop]
              simp only [aopK, cond_false]
              unfold zbT at hzb
              unfold zT
              split at hzb
              · rename_i inf hinf
                split at hzb
                · rename_i z hzz
                  simp only [hinf, hzz, hzb, cond_true]
                  intro bb
                  refine ⟨fun j' _ => .inr (.inr (.inl ⟨[_], rfl⟩)), oj, hoj, .inr (.inl ⟨(WA_put (apt oi hoi)).2 a, .inr b, d, (still_cons c [_]).congr fun x hx => (ev_put (apt oi hoi) x hx).symm, _ :: M, L2, by rw [hM]; rfl, e', he'.trans (AEnv.dfr_put ..).symm, hq'⟩)⟩
                · cases hzb
              · cases hzb
            exact goA_of hz
      · omega
      · refine step d r fun oi di q L' hl hoi hr => ⟨oj, hoj, .inr (.inr (.inr (.inl ⟨(WA_put (apt oi hoi)).2 a, b, d, x, ?_, hbx, c.congr fun x hx => (ev_put (apt oi hoi) x hx).symm, hr⟩)))⟩
        rcases hl with rfl | hl | ⟨M, rfl⟩ | hl
        · exact hx
        · rcases k0 with hk | hk | hk
          · omega
          · rw [hk.2] at hl; cases hl
          · omega
        · exact List.mem_append_right _ hx
        · exact hl.2 x hx hbx
      · exact step (.val undef) r fun oi di q L' hl hoi hr => ⟨oj, hoj, .inr (.inr (.inr (.inr ⟨(WA_put (apt oi hoi)).2 a, hr⟩)))⟩
theorem ons_mem : ∀ (l : List Edge) (y : Nat), y ∈ ons l ↔ ∃ e ∈ l, Region.binds .any e = true ∧ e.on = y
  | [], y => by simp [ons]
  | e :: l, y => by
    have hb : bindsB e = Region.binds .any e := by
      unfold bindsB Region.binds
      cases e.ground <;> rfl
    simp only [ons, Bool.cond_eq_ite, hb]
    split
    · rename_i h
      simp only [List.mem_cons, ons_mem l y]
      constructor
      · rintro (rfl | ⟨e', h1, h2⟩)
        · exact ⟨e, .inl rfl, h, rfl⟩
        · exact ⟨e', .inr h1, h2⟩
      · rintro ⟨e', rfl | h1, h2, h3⟩
        · exact .inl h3.symm
        · exact .inr ⟨e', h1, h2, h3⟩
    · rename_i h
      simp only [ons_mem l y]
      constructor
      · rintro ⟨e', h1, h2⟩; exact ⟨e', List.mem_cons_of_mem _ h1, h2⟩
      · rintro ⟨e', h1, h2, h3⟩
        rcases List.mem_cons.1 h1 with rfl | h1
        · exact absurd h2 h
        · exact ⟨e', h1, h2, h3⟩
/-- what has been listed -/
def Ls (listed : Array Bool) : Nat → Prop := fun i => listed.getD i false = true
theorem ready_rd {ops : Array Oper} {listed : Array Bool} (hs : listed.size = ops.size) (i : Nat) : i ∈ Region.ready .any ops listed ↔ Rd ops (Ls listed) i := by
  rw [mem_ready]
  constructor
  · rintro ⟨h1, o, ho, he⟩
    refine ⟨fun hh => ?_, o, ho, fun y hy => ?_⟩
    · have hlt : i < listed.size := by rw [hs]; exact (Array.getElem?_eq_some_iff.1 ho).1
      simp only [Ls, Array.getD_eq_getD_getElem?, Array.getElem?_eq_getElem hlt, Option.getD_some] at h1 hh
      rw [h1] at hh
      cases hh
    · obtain ⟨e, h2, h3, h4⟩ := (ons_mem _ _).1 hy
      rw [← h4]
      exact he e (by simpa using h2) h3
  · rintro ⟨h1, o, ho, he⟩
    refine ⟨?_, o, ho, fun e h2 h3 => he e.on ((ons_mem _ _).2 ⟨e, by simpa using h2, h3, rfl⟩)⟩
    have hlt : i < listed.size := by rw [hs]; exact (Array.getElem?_eq_some_iff.1 ho).1
    simp only [Ls, Array.getD_eq_getD_getElem?, Array.getElem?_eq_getElem hlt, Option.getD_some] at h1 ⊢
    simpa using h1
theorem ls_set {listed : Array Bool} {i : Nat} (hi : i < listed.size) : Ls (listed.setIfInBounds i true) = ins i (Ls listed) := by
  funext x
  simp only [Ls, ins, Array.getD_eq_getD_getElem?, Array.getElem?_setIfInBounds]
  by_cases h : i = x
  · subst h; simp [hi]
  · have h2 : ¬ x = i := fun hh => h hh.symm
    simp [h, h2]
theorem nodup_le : ∀ (n : Nat) (d : List Nat), d.Nodup → (∀ x ∈ d, x < n) → d.length ≤ n
  | 0, [], _, _ => Nat.le_refl _
  | 0, x :: d, _, h => absurd (h x (by simp)) (by omega)
  | n + 1, d, hd, h => by
    have h1 := nodup_le n (d.erase n) (hd.erase n) (fun x hx => by
      have h2 := (hd.mem_erase_iff).1 hx
      have := h x h2.2
      have := h2.1
      omega)
    by_cases hm : n ∈ d
    · rw [List.length_erase_of_mem hm] at h1; omega
    · rw [List.erase_of_not_mem hm] at h1; omega
theorem dst_mem : ∀ {l : List Oper}, o ∈ l → ∀ x, o.dst = some x → x ∈ dstsO l
  | q :: l, h, x, hx => by
    rcases List.mem_cons.1 h with rfl | h
    · exact dstsO_mem hx
    · exact dstsO_tail (dst_mem h x hx)
theorem out_wp {a : Act} {w : World} {k : Value → World → Prop} {kp : List PanicEntry → World → Prop} {next : Act → World → Prop} {Q : Exit → Act → World → Prop}
    (h : Out P w k kp ((execOp a.eval o).run P w)) (hk : ∀ v w', k v w' → next (a.put o.dst v) w') (hp : ∀ c w', kp c w' → Q (.panic c) a w') : o.wp P a w next Q := by
  unfold Oper.wp
  generalize (execOp a.eval o).run P w = r at h
  cases h with
  | value v w' h => rw [Oper.upon_value]; exact hk _ _ h
  | skip w' h => rw [Oper.upon_skip]; exact hk _ _ h
  | enter g args h =>
    rw [Oper.upon_enter]
    refine h.mono fun x w' hx => ?_
    cases x with
    | returned v => exact hk _ _ hx
    | panicked c => exact hp _ _ hx
    | outgrown => exact hx.elim
  | panic v w' h => rw [Oper.upon_panic]; exact hp _ w' h
theorem WA_wanted {ops : Array Oper} {n : Nat} {F : Nat → Prop} {w : World} {e : AEnv} {a : Act} {b : Bool} (ha : AAgree F w n e a) (h : WA ops o e b) : Region.wanted o (yielded ops a.tmps) = b := by
  unfold WA at h
  cases hg : gdst ops o with
  | none =>
    simp only [hg] at h
    rw [h]; simp [Region.wanted, gdst_none hg]
  | some x =>
    obtain ⟨t, want⟩ := x
    cases t with
    | none => simp only [hg] at h
    | some t =>
      simp only [hg] at h
      obtain ⟨v, h1, h2⟩ := h
      have h3 := ha.tmp t
      rw [h1] at h3
      have h4 := (rep_val_iff.1 h3).1
      have h5 := wanted_of hg ha.agree
      have h6 : (envOf a).get t = v := h4
      rw [h6] at h5
      cases b with
      | true => exact h5.2 (h2.1 rfl)
      | false =>
        rw [Bool.eq_false_iff]
        intro hh
        have := h2.2 (h5.1 hh)
        cases this
theorem any_of_run {ops : Array Oper} {S : Nat → Prop} {Q : AX → AEnv → List Bx → Prop} {n : Nat} (hl : lt n (dstsO ops.toList))
    (hap : ∀ x y ox oy, ops[x]? = some ox → ops[y]? = some oy → x ≠ y → ox.apart ops oy = true ∨ Tr ops x y ∨ Tr ops y x) {F0 : Nat → Prop} {L0 : List Bx} {w0 : World} {a0 : Act} {dfr0 : List (Nat × List D × List D)} {Qa : Exit → Act → World → Prop}
    (hn : ∀ ae' L' F' a' w', Q .normal ae' L' → Ev F0 L0 w0 F' L' w' → AW F' L' w' → AAgree F' w' n ae' a' → ASame (dstsO ops.toList) a0 a' → a'.defers = a0.defers → Qa .normal a' w')
    (hx : ∀ d ae' L' F' a' w' v, Q (.panic d) ae' L' → Ev F0 L0 w0 F' L' w' → AW F' L' w' → Rep F' w' d v → DReps F' w' ae'.dfr a'.defers → ASame (dstsO ops.toList) a0 a' → Qa (.panic [{ v := v, recovered := false }]) a' w') :
    ∀ (fuel : Nat) (listed : Array Bool) (p : Plan) (e : AEnv) (L : List Bx) (F : Nat → Prop) (w : World) (a : Act), listed.size = ops.size → (∃ d : List Nat, d.Nodup ∧ (∀ i, i ∈ d ↔ Ls listed i) ∧ d.length + fuel = ops.size) →
    PlanOk P ops S (Ls listed) p → runA P ops Q p e L → AW F L w → AAgree F w n e a → Shut ops (Ls listed) → Ev F0 L0 w0 F L w → ASame (dstsO ops.toList) a0 a → a.defers = a0.defers → wpAny P .any ops Qa fuel listed a w := by
  have fin : ∀ (listed : Array Bool) (p : Plan) (e : AEnv) (L : List Bx) (F : Nat → Prop) (w : World) (a : Act), listed.size = ops.size → PlanOk P ops S (Ls listed) p → runA P ops Q p e L → AW F L w → AAgree F w n e a → Ev F0 L0 w0 F L w → ASame (dstsO ops.toList) a0 a → a.defers = a0.defers →
      Region.ready .any ops listed = [] → Qa .normal a w := by
    intro listed p e L F w a hs hp hr aw ha he hse hd hre
    have hp0 : p = [] := by
      cases p with
      | nil => rfl
      | cons q p =>
        have := (ready_rd hs q.1).2 hp.1
        rw [hre] at this
        cases this
    subst hp0
    exact hn e L F a w hr he aw ha hse hd
  intro fuel
  induction fuel with
  | zero =>
    intro listed p e L F w a hs hc hp hr aw ha hD he hse hd
    have hre : Region.ready .any ops listed = [] := by
      rw [List.eq_nil_iff_forall_not_mem]
      intro i hi
      obtain ⟨h1, o, ho, _⟩ := (ready_rd hs i).1 hi
      obtain ⟨d, hnd, hd, hlen⟩ := hc
      have hlt : i < ops.size := (Array.getElem?_eq_some_iff.1 ho).1
      have hsub : ∀ x ∈ i :: d, x ∈ List.range ops.size := by
        intro x hx
        rw [List.mem_range]
        rcases List.mem_cons.1 hx with rfl | hx
        · exact hlt
        · have := (hd x).1 hx
          rcases Nat.lt_or_ge x ops.size with h | h
          · exact h
          · simp [Ls, Array.getD_eq_getD_getElem?, Array.getElem?_eq_none (by omega : listed.size ≤ x)] at this
      have hnd' : (i :: d).Nodup := List.nodup_cons.2 ⟨fun hh => h1 ((hd i).1 hh), hnd⟩
      have := nodup_le ops.size (i :: d) hnd' (fun x hx => List.mem_range.1 (hsub x hx))
      simp at this
      omega
    exact ⟨hre, fin listed p e L F w a hs hp hr aw ha he hse hd hre⟩
  | succ fuel ih =>
    intro listed p e L F w a hs hc hp hr aw ha hD he hse hd
    refine ⟨fin listed p e L F w a hs hp hr aw ha he hse hd, fun i hi => ?_⟩
    have hi' := (ready_rd hs i).1 hi
    obtain ⟨hq, o, ho, hres⟩ := firstA hap p _ e L hp hr hD hi'
    have hlt : i < listed.size := by rw [hs]; exact (Array.getElem?_eq_some_iff.1 ho).1
    have hmem : o ∈ ops.toList := List.mem_of_getElem? (show ops.toList[i]? = some o by rw [Array.getElem?_toList]; exact ho)
    have hdm := dst_mem hmem
    have hdi : ∀ x, o.dst = some x → x < n := fun x hx => hl x (hdm x hx)
    have next : ∀ d L' F' v w', runA P ops Q (rmA i p) (e.put o.dst d) L' → Ev F L w F' L' w' → AW F' L' w' → Rep F' w' d v → wpAny P .any ops Qa fuel (listed.setIfInBounds i true) (a.put o.dst v) w' := by
      intro d L' F' v w' hrun he' haw' hrep
      refine ih _ (rmA i p) _ L' F' w' _ (by simpa using hs) ?_ (by rw [ls_set hlt]; exact hq) hrun haw' ((ha.move he' aw).put hdi hrep) ?_ (he.trans he') (hse.trans (asame_put ha hdi v _ hdm)) (by rw [← hd]; cases o.dst <;> rfl)
      · obtain ⟨d, hnd, hd', hlen⟩ := hc
        refine ⟨i :: d, List.nodup_cons.2 ⟨fun hh => hi'.1 ((hd' i).1 hh), hnd⟩, fun x => ?_, by simp; omega⟩
        rw [ls_set hlt]
        simp only [List.mem_cons, hd', ins]
      · rw [ls_set hlt]
        intro x ox hx hox y hy
        rcases hx with rfl | hx
        · obtain ⟨o', ho', he⟩ := hi'.2
          rw [ho'] at hox; injection hox with hox; subst hox
          exact .inr (he y hy)
        · exact .inr (hD x ox hx hox y hy)
    have evx : ∀ x ∈ o.op.operands.toList, Rep F w (e.ev x) (a.eval x) := fun x _ => ha.ev x
    unfold wpOp
    simp only [ho]
    rcases hres with ⟨hw, d, hv, hr⟩ | ⟨hw, d, hv, M, L2, hM, e', he', hrq⟩ | ⟨hw, hr⟩ | ⟨hw, hr⟩
    · rw [if_pos (WA_wanted ha hw)]
      left
      refine out_wp (hv.1 F w a.eval aw evx) ?_ ?_
      · rintro v w' ⟨d', F', L', ⟨h1, rfl⟩, h2, h3, h4⟩
        injection h1 with h1; subst h1
        exact next _ _ F' v w' hr h2 h3 h4
      · rintro c w' ⟨d', F', L', v, ⟨h1, rfl⟩, _⟩
        cases h1
    · rw [if_pos (WA_wanted ha hw)]
      left
      refine out_wp (hv F w a.eval aw evx) ?_ ?_
      · rintro v w' ⟨d', F', L', ⟨h1, rfl⟩, _⟩
        cases h1
      · rintro c w' ⟨d', F', L', v, ⟨h1, rfl⟩, rfl, h2, h3, h4⟩
        injection h1 with h1; subst h1
        subst hM
        have h3' : AW F' L2 w' := (h3.perm List.perm_append_comm).left
        have h2' : Ev F (M ++ L2) w F' L2 w' := ⟨h2.os, h2.tape, h2.output, h2.size, h2.block, h2.grow, h2.old, fun x hx hl => h2.own x (List.mem_append_right _ hx) hl, h2.drawn⟩
        exact hx _ _ _ F' a w' v hrq (he.trans h2') h3' h4 (by rw [he']; exact ha.dfr.keep (h2.keeps aw)) hse
    · rw [if_pos (WA_wanted ha hw)]
      left
      refine out_wp (hr F w a.eval aw evx) ?_ ?_
      · rintro v w' ⟨d', F', L', h1, h2, h3, h4⟩
        exact next _ _ F' v w' h1.2 h2 h3 h4
      · rintro c w' ⟨d', F', L', v, ⟨e', he', h1⟩, rfl, h2, h3, h4⟩
        exact hx _ _ _ F' a w' v h1 (he.trans h2) h3 h4 (by rw [he']; exact ha.dfr.keep (h2.keeps aw)) hse
    · rw [if_neg (by rw [WA_wanted ha hw]; simp)]
      exact next (.val undef) L F undef w hr (Ev.refl ..) aw (rep_val trivial)
/-! ### the check of an order -/
theorem subL_of : ∀ (L D : List Nat), (∀ y ∈ L, y ∈ D) → subL L D = true
  | [], _, _ => rfl
  | a :: L, D, h => by
    simp only [subL, Bool.cond_eq_ite]
    rw [if_pos ((mem_iff D a).2 (h a (by simp)))]
    exact subL_of L D fun y hy => h y (by simp [hy])
theorem rdy_mem (D : List Nat) : ∀ (l : List Oper) (k i : Nat), i ∈ rdy l k D ↔ ∃ o, k ≤ i ∧ l[i - k]? = some o ∧ i ∉ D ∧ ∀ y ∈ ons o.after.toList, y ∈ D
  | [], k, i => by simp [rdy]
  | o :: r, k, i => by
    have ih := rdy_mem D r (k + 1) i
    have step : (∃ o', k + 1 ≤ i ∧ r[i - (k + 1)]? = some o' ∧ i ∉ D ∧ ∀ y ∈ ons o'.after.toList, y ∈ D) ↔ (∃ o', k < i ∧ (o :: r)[i - k]? = some o' ∧ i ∉ D ∧ ∀ y ∈ ons o'.after.toList, y ∈ D) := by
      constructor
      · rintro ⟨o', h1, h2, h3⟩
        refine ⟨o', h1, ?_, h3⟩
        rw [show i - k = (i - (k + 1)) + 1 by omega]
        exact h2
      · rintro ⟨o', h1, h2, h3⟩
        refine ⟨o', h1, ?_, h3⟩
        rw [show i - k = (i - (k + 1)) + 1 by omega] at h2
        exact h2
    simp only [rdy, Bool.cond_eq_ite]
    split
    · rename_i hm
      have hm := (mem_iff D k).1 hm
      rw [ih, step]
      constructor
      · rintro ⟨o', h1, h2⟩; exact ⟨o', by omega, h2⟩
      · rintro ⟨o', h1, h2, h3, h4⟩
        rcases Nat.lt_or_ge k i with h | h
        · exact ⟨o', h, h2, h3, h4⟩
        · have : i = k := by omega
          subst this
          exact absurd hm h3
    · rename_i hm
      have hm : k ∉ D := fun hh => hm ((mem_iff D k).2 hh)
      split
      · rename_i hsb
        rw [List.mem_cons, ih, step]
        constructor
        · rintro (rfl | ⟨o', h1, h2⟩)
          · exact ⟨o, Nat.le_refl _, by simp, hm, subL_spec _ _ hsb⟩
          · exact ⟨o', by omega, h2⟩
        · rintro ⟨o', h1, h2, h3⟩
          rcases Nat.lt_or_ge k i with h | h
          · exact .inr ⟨o', h, h2, h3⟩
          · exact .inl (by omega)
      · rename_i hsb
        rw [ih, step]
        constructor
        · rintro ⟨o', h1, h2⟩; exact ⟨o', by omega, h2⟩
        · rintro ⟨o', h1, h2, h3, h4⟩
          rcases Nat.lt_or_ge k i with h | h
          · exact ⟨o', h, h2, h3, h4⟩
          · have : i = k := by omega
            subst this
            simp at h2
            subst h2
            exact absurd (subL_of _ _ h4) hsb
theorem rdy_rd {ops : Array Oper} (D : List Nat) (i : Nat) : i ∈ rdy ops.toList 0 D ↔ Rd ops (· ∈ D) i := by
  rw [rdy_mem]
  constructor
  · rintro ⟨o, _, h2, h3, h4⟩; exact ⟨h3, o, by simpa using h2, h4⟩
  · rintro ⟨h1, o, h2, h3⟩; exact ⟨o, Nat.zero_le _, by simpa using h2, h1, h3⟩
theorem ins_cons (i : Nat) (D : List Nat) : ins i (· ∈ D) = (· ∈ i :: D) := by
  funext x
  simp [ins]
/-- what stands ahead, by the table, does -/
def TOk (ops : Array Oper) (T : List (List Nat)) : Prop := ∀ i, ∀ j ∈ T.getD i [], Tr ops j i
theorem aheadB_ok {ops : Array Oper} {T : List (List Nat)} (hT : TOk ops T) (i : Nat) : ∀ (p : Plan), aheadB T i p = true → ∀ q ∈ p, Tr ops i q.1
  | (j, kd) :: p, h, q, hq => by
    simp only [aheadB, Bool.and_eq_true] at h
    rcases List.mem_cons.1 hq with rfl | hq
    · exact hT _ _ ((mem_iff _ _).1 h.1)
    · exact aheadB_ok hT i p h.2 q hq
theorem pureL_ok {ops : List Oper} {Ti : List Nat} : ∀ (E : List Nat), pureL ops Ti E = true → ∀ j ∈ E, j ∈ Ti ∨ pureAt ops j = true
  | k :: E, h, j, hj => by
    simp only [pureL, Bool.and_eq_true, Bool.or_eq_true] at h
    rcases List.mem_cons.1 hj with rfl | hj
    · exact h.1.imp (mem_iff _ _).1 id
    · exact pureL_ok E h.2 j hj
theorem pureL5_ok {ops : List Oper} {Ti F : List Nat} : ∀ (E : List Nat), pureL5 ops Ti F E = true → ∀ j ∈ E, j ∈ Ti ∨ pureAt ops j = true ∨ j ∈ F
  | k :: E, h, j, hj => by
    simp only [pureL5, Bool.and_eq_true, Bool.or_eq_true] at h
    rcases List.mem_cons.1 hj with rfl | hj
    · exact h.1.imp (mem_iff _ _).1 (Or.imp id (mem_iff _ _).1)
    · exact pureL5_ok E h.2 j hj
theorem ahead6_ok {ops : Array Oper} {T : List (List Nat)} (hT : TOk ops T) (i : Nat) : ∀ (p : Plan), ahead6 P ops.toList T i p = true → ∀ q ∈ p, Tr ops i q.1 ∨ newAt P ops.toList q.1 = true
  | (j, kd) :: p, h, q, hq => by
    simp only [ahead6, Bool.and_eq_true, Bool.or_eq_true] at h
    rcases List.mem_cons.1 hq with rfl | hq
    · exact h.1.imp (fun h => hT _ _ ((mem_iff _ _).1 h)) id
    · exact ahead6_ok hT i p h.2 q hq
theorem planB_ok {ops : Array Oper} {T : List (List Nat)} {F : List Nat} (hT : TOk ops T) : ∀ (p : Plan) (D : List Nat), planB P ops.toList T F D p = true → PlanOk P ops (· ∈ F) (· ∈ D) (strip p)
  | [], D, h => by
    simp only [planB] at h
    split at h
    · rename_i hr
      exact fun i hi => by have := (rdy_rd D i).2 hi; rw [hr] at this; cases this
    · cases h
  | (i, kd) :: p, D, h => by
    simp only [planB, Bool.and_eq_true] at h
    obtain ⟨h1, h2, hS, h3⟩ := h
    have hah : aheadB T i p = true → ∀ q ∈ strip p, Tr ops i q.1 := fun h q hq => by
      obtain ⟨q', hq', he⟩ := strip_mem hq
      rw [← he]; exact aheadB_ok hT i p h q' hq'
    refine ⟨(rdy_rd D i).1 ((mem_iff _ _).1 h1), ?_, ?_, by rw [ins_cons]; exact planB_ok hT p (i :: D) h3⟩
    · intro hF
      simp only [Bool.or_eq_true, Bool.not_eq_true', Nat.beq_eq] at hS
      rcases hS with hS | hS
      · rw [(mem_iff F i).2 hF] at hS; cases hS
      · exact hS
    generalize kd % 10 = kd at h2
    match kd, h2 with
    | 0, _ => exact .inl rfl
    | 1, h2 => exact .inr (.inl ⟨rfl, hah h2⟩)
    | 2, h2 =>
      simp only [Bool.and_eq_true] at h2
      exact .inr (.inr (.inl ⟨rfl, hah h2.1, fun j hj => (pureL_ok _ h2.2 j hj).imp (hT i j) id⟩))
    | 4, h2 =>
      simp only [Bool.and_eq_true] at h2
      exact .inr (.inr (.inr (.inl ⟨by omega, by omega, hah h2.1, .inr ⟨rfl, fun j hj => (pureL5_ok _ h2.2 j hj).imp (hT i j) id⟩⟩)))
    | 5, h2 => exact .inr (.inr (.inr (.inr (.inl ⟨rfl, by simpa using h2⟩))))
    | 6, h2 => exact .inr (.inr (.inr (.inr (.inr ⟨rfl, fun q hq => by
      obtain ⟨q', hq', he⟩ := strip_mem hq
      rw [← he]; exact ahead6_ok hT i p h2 q' hq'⟩))))
    | 3, h2 =>
      simp only [Bool.and_eq_true] at h2
      exact .inr (.inr (.inr (.inl ⟨by omega, by omega, hah h2.1, .inl h2.2⟩)))
    | kd + 7, h2 =>
      simp only [Bool.and_eq_true] at h2
      exact .inr (.inr (.inr (.inl ⟨by omega, by omega, hah h2.1, .inl h2.2⟩)))
theorem uni_mem : ∀ (l m : List Nat) (j : Nat), j ∈ uni l m → j ∈ l ∨ j ∈ m
  | [], m, j, h => .inr h
  | a :: l, m, j, h => by
    unfold uni at h
    rw [Bool.cond_eq_ite] at h
    split at h
    · exact (uni_mem l m j h).imp (List.mem_cons_of_mem _) id
    · rcases uni_mem l _ j h with h | h
      · exact .inl (List.mem_cons_of_mem _ h)
      · rcases List.mem_cons.1 h with rfl | h
        · exact .inl List.mem_cons_self
        · exact .inr h
theorem aheadL_mem (T : List (List Nat)) : ∀ (l : List Nat) (j : Nat), j ∈ aheadL T l → j ∈ l ∨ ∃ k ∈ l, j ∈ T.getD k []
  | [], _, h => by cases h
  | a :: l, j, h => by
    rcases uni_mem _ _ j h with h | h
    · rcases List.mem_cons.1 h with rfl | h
      · exact .inl (by simp)
      · exact .inr ⟨a, by simp, h⟩
    · rcases aheadL_mem T l j h with h | ⟨k, hk, h⟩
      · exact .inl (by simp [h])
      · exact .inr ⟨k, by simp [hk], h⟩
theorem aheads_ok {ops : Array Oper} : ∀ (l : List Oper) (T : List (List Nat)), (∀ j, l[j]? = ops[T.length + j]?) → TOk ops T → TOk ops (aheads l T)
  | [], T, _, hT => hT
  | o :: r, T, hl, hT => by
    have ho : ops[T.length]? = some o := by simpa using (hl 0).symm
    refine aheads_ok r _ (fun j => ?_) ?_
    · have := hl (j + 1)
      simp only [List.length_append, List.length_cons, List.length_nil]
      rw [show T.length + (0 + 1) + j = T.length + (j + 1) by omega, ← this]
      rfl
    · intro i j hj
      rcases Nat.lt_trichotomy i T.length with h | h | h
      · rw [List.getD_eq_getElem?_getD, List.getElem?_append_left h, ← List.getD_eq_getElem?_getD] at hj
        exact hT i j hj
      · subst h
        rw [List.getD_eq_getElem?_getD, List.getElem?_append_right (Nat.le_refl _)] at hj
        simp only [Nat.sub_self, List.getElem?_cons_zero, Option.getD_some] at hj
        rcases aheadL_mem T _ j hj with h | ⟨k, hk, h⟩
        · exact .edge ho h
        · exact .step ho hk (hT k j h)
      · rw [List.getD_eq_getElem?_getD, List.getElem?_eq_none (by simp; omega)] at hj
        cases hj
theorem apartB_ok {ops : Array Oper} {T : List (List Nat)} (hT : TOk ops T) (x : Oper) (i : Nat) : ∀ (l : List Oper) (k : Nat), apartB ops T x i l k = true → ∀ q y, l[q]? = some y → i ≠ k + q → x.apart ops y = true ∨ Tr ops i (k + q) ∨ Tr ops (k + q) i
  | [], _, _, q, y, hy, _ => by simp at hy
  | z :: l, k, h, q, y, hy, hne => by
    simp only [apartB, Bool.and_eq_true, Bool.or_eq_true] at h
    cases q with
    | zero =>
      simp at hy
      subst hy
      rcases h.1 with h1 | h1 | h1 | h1
      · exact absurd (by simpa using h1) hne
      · exact .inl h1
      · exact .inr (.inl (hT _ _ ((mem_iff _ _).1 h1)))
      · exact .inr (.inr (hT _ _ ((mem_iff _ _).1 h1)))
    | succ q =>
      have := apartB_ok hT x i l (k + 1) h.2 q y (by simpa using hy) (by omega)
      rwa [show k + 1 + q = k + (q + 1) by omega] at this
theorem apartsB_ok {ops : Array Oper} {T : List (List Nat)} (hT : TOk ops T) : ∀ (l : List Oper) (i : Nat), apartsB ops T l i = true → ∀ q x, l[q]? = some x → ∀ j y, ops[j]? = some y → i + q ≠ j → x.apart ops y = true ∨ Tr ops (i + q) j ∨ Tr ops j (i + q)
  | [], _, _, q, x, hx => by simp at hx
  | z :: l, i, h, q, x, hx => by
    simp only [apartsB, Bool.and_eq_true] at h
    intro j y hy hne
    cases q with
    | zero =>
      simp at hx
      subst hx
      have := apartB_ok hT z i ops.toList 0 h.1 j y (by rw [Array.getElem?_toList]; exact hy) (by simpa using hne)
      simpa using this
    | succ q =>
      have := apartsB_ok hT l (i + 1) h.2 q x (by simpa using hx) j y hy (by omega)
      rwa [show i + 1 + q = i + (q + 1) by omega] at this
theorem drawsB_ok {A : An} {n : Nat} (hm : P.follows .mixedOrders = true) : ∀ (c : Code), drawsB P A c = true → lt n (dsts c) → DrawsOk P n A c
  | .region i ops true, h, hl => by
    intro p hp ae L F w a Q Qa hd aw ha hn hx
    simp only [drawsB, hp, drawB, Bool.and_eq_true] at h
    obtain ⟨h1, h2, h3, h4⟩ := h
    have hT : TOk ops (aheads ops.toList []) := aheads_ok ops.toList [] (fun j => by simp) (fun i j hj => by simp at hj)
    have hpl := planB_ok hT p [] h1
    have hE : Ls (Array.replicate ops.size false) = (· ∈ ([] : List Nat)) := by
      funext x
      simp only [Ls, Array.getD_eq_getD_getElem?, Array.getElem?_replicate]
      split <;> simp
    refine wp_region_any hm ?_
    have xd : Ext (fun _ => False) w w.drew := ⟨rfl, rfl, rfl, Nat.le_refl _, fun _ _ _ => rfl, Nat.le_succ _⟩
    obtain ⟨aw', he'⟩ := aw.nx xd
    refine any_of_run (Q := Q) (dfr0 := ae.dfr) hl
      (fun x y ox oy hox hoy hne => by
        have := apartsB_ok hT ops.toList 0 h2 x ox (by rw [Array.getElem?_toList]; exact hox) y oy hoy (by omega)
        simpa using this) (F0 := F) (L0 := L) (w0 := w) (a0 := a) hn hx ops.size _ (strip p) ae L F w.drew a (by simp) ⟨[], by simp, fun i => by rw [hE], by simp⟩ (by rw [hE]; exact hpl) ?_ aw' (ha.move he' aw) (by rw [hE]; intro x o hx; cases hx) he' (ASame.refl _ _) rfl
    exact run_of_draw p [] ae L hd (fun d hd => by cases hd)
  | .region i ops false, _, _ => trivial
  | .seq x y, h, hl => by
    simp only [drawsB, Bool.and_eq_true] at h
    exact ⟨drawsB_ok hm x h.1 (fun i hi => hl i (by simp [dsts, hi])), drawsB_ok hm y h.2 (fun i hi => hl i (by simp [dsts, hi]))⟩
  | .cond _ x y, h, hl => by
    simp only [drawsB, Bool.and_eq_true] at h
    exact ⟨drawsB_ok hm x h.1 (fun i hi => hl i (by simp [dsts, hi])), drawsB_ok hm y h.2 (fun i hi => hl i (by simp [dsts, hi]))⟩
  | .block _ c, h, hl => drawsB_ok hm c h hl
  | .loop c, h, hl => drawsB_ok hm c h hl
  | .skip, _, _ => trivial
  | .label _, _, _ => trivial
  | .exit _, _, _ => trivial
  | .goto _, _, _ => trivial
  | .ret, _, _ => trivial
  | .refuse _, _, _ => trivial
  | .scope _, _, _ => trivial
  | .rangeFunc .., _, _ => trivial
/-- A FUNCTION's CALL, out of what must hold ahead of its body -/
theorem aspec_of {f : FuncId} {fn : Func} {A : An} {args : List D} {L : List Bx} {R : AE → List Bx → Prop} (n : Nat) (hm : P.follows .mixedOrders = true)
    (hf : P.funcs[f]? = some fn) (hb : fn.body = some (bodyOf fn)) (hname : fn.name ≠ "runtime.NumGoroutine") (hn : args.length = n)
    (hchk : ((ltB (n + (fn.ntmps - n)) (dsts (bodyOf fn)) && (noDef (bodyOf fn) || nulB A.j)) && drawsB P A (bodyOf fn)) = true)
    (h : aex P A (bodyOf fn) (aenv0 args) L (apost P fn.results.toList R)) : ASpec P f args L R := by
  subst hn
  rw [Bool.and_eq_true] at hchk
  exact aspec_of_ex hf hb hname hchk.1 (drawsB_ok hm _ hchk.2 (ltB_spec _ (by have := hchk.1; rw [Bool.and_eq_true] at this; exact this.1))) h
end
end Go.V
