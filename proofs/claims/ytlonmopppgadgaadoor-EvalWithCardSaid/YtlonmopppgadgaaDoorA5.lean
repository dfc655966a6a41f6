/- A piece of code; a function's call. -/
import Derived.Test.YtlonmopppgadgaaDoorA4
set_option linter.unusedVariables false
namespace Go.V
open Go
section
variable {P : Program} {n : Nat}
theorem aex_sound {A : An} : ∀ (c : Code) (ae : AEnv) (L : List Bx) (F : Nat → Prop) (w : World) (a : Act) (Q : AX → AEnv → List Bx → Prop), aex P A c ae L Q → AW F L w → AAgree F w n ae a → lt n (dsts c) → (noDef c = true ∨ A.j = []) → DrawsOk P n A c →
    ∀ (Qa : Exit → Act → World → Prop), (∀ ax ae' L' F' a' w', isPan ax = false → Q ax ae' L' → Ev F L w F' L' w' → AW F' L' w' → AAgree F' w' n ae' a' → ASame (dsts c) a a' → (noDef c = true → a'.defers = a.defers) → Qa (xOf ax) a' w') →
    (∀ d ae' L' F' a' w' v, Q (.panic d) ae' L' → Ev F L w F' L' w' → AW F' L' w' → Rep F' w' d v → DReps F' w' ae'.dfr a'.defers → ASame (dsts c) a a' → Qa (.panic [{ v := v, recovered := false }]) a' w') → c.wp P Qa a w := by
  intro c
  induction c with
  | skip => intro ae L F w a Q h aw ha _ _ _ Qa hn _; exact wp_skip (hn .normal ae L F a w rfl h (Ev.refl ..) aw ha (ASame.refl _ _) fun _ => rfl)
  | label l => intro ae L F w a Q h aw ha _ _ _ Qa hn _; exact wp_label (hn .normal ae L F a w rfl h (Ev.refl ..) aw ha (ASame.refl _ _) fun _ => rfl)
  | exit id => intro ae L F w a Q h aw ha _ _ _ Qa hn _; exact wp_exit (hn (.exit id) ae L F a w rfl h (Ev.refl ..) aw ha (ASame.refl _ _) fun _ => rfl)
  | ret => intro ae L F w a Q h aw ha _ _ _ Qa hn _; exact wp_ret (hn .ret ae L F a w rfl h (Ev.refl ..) aw ha (ASame.refl _ _) fun _ => rfl)
  | rangeFunc => intro ae L F w a Q h; exact h.elim
  | scope => intro ae L F w a Q h; exact h.elim
  | goto => intro ae L F w a Q h; exact h.elim
  | refuse => intro ae L F w a Q h; exact h.elim
  | region i ops draw =>
    intro ae L F w a Q h aw ha hl hnd hdr Qa hn hx
    unfold aex at h
    cases draw with
    | false =>
      refine wp_region_list ?_
      have := aopsV_sound (P := P) 1000 [] ops.toList ae L F w a Q h aw ha hl (hnd.imp id fun hA => by rw [hA]; exact anOf_nil) [] Qa
        (fun ae' L' F' a' w' hq he haw ha' hs hd => hn .normal ae' L' F' a' w' rfl hq he haw ha' hs hd) hx
      simpa using this
    | true =>
      simp only [pcond] at h
      split at h
      case h_2 => exact h.elim
      rename_i p hp
      exact hdr p hp ae L F w a Q Qa h aw ha (fun ae' L' F' a' w' hq he haw ha' hs hd => hn .normal ae' L' F' a' w' rfl hq he haw ha' hs fun _ => hd) hx
  | cond c x y ihx ihy =>
    intro ae L F w a Q h aw ha hl hnd hdr Qa hn hx
    unfold aex at h
    obtain ⟨t, hcv, ht, h1, h2⟩ := acnd_spec h (ha.ev c)
    refine wp_cond ht ?_
    have hx1 : ∀ i, i ∈ dsts x → i ∈ dsts (.cond c x y) := fun i hi => by simp [dsts, hi]
    have hy1 : ∀ i, i ∈ dsts y → i ∈ dsts (.cond c x y) := fun i hi => by simp [dsts, hi]
    cases t with
    | true =>
      exact ihx ae L F w a Q (h1 rfl) aw ha (fun i hi => hl i (hx1 i hi)) (hnd.imp (fun h => by simp only [noDef, Bool.and_eq_true] at h; exact h.1) id) hdr.1 Qa
        (fun ax ae' L' F' a' w' hne hq he haw ha' hs hd => hn ax ae' L' F' a' w' hne hq he haw ha' (hs.mono hx1) fun h => hd (by simp only [noDef, Bool.and_eq_true] at h; exact h.1)) (fun d ae' L' F' a' w' v hq he haw hr hd hs => hx d ae' L' F' a' w' v hq he haw hr hd (hs.mono hx1))
    | false =>
      exact ihy ae L F w a Q (h2 rfl) aw ha (fun i hi => hl i (hy1 i hi)) (hnd.imp (fun h => by simp only [noDef, Bool.and_eq_true] at h; exact h.2) id) hdr.2 Qa
        (fun ax ae' L' F' a' w' hne hq he haw ha' hs hd => hn ax ae' L' F' a' w' hne hq he haw ha' (hs.mono hy1) fun h => hd (by simp only [noDef, Bool.and_eq_true] at h; exact h.2)) (fun d ae' L' F' a' w' v hq he haw hr hd hs => hx d ae' L' F' a' w' v hq he haw hr hd (hs.mono hy1))
  | block id c ih =>
    intro ae L F w a Q h aw ha hl hnd hdr Qa hn hx
    unfold aex at h
    refine wp_block (ih ae L F w a _ h aw ha hl hnd hdr _ ?_ ?_)
    · intro ax ae' L' F' a' w' hne hq he haw ha' hs hd
      cases ax with
      | exit i =>
        simp only [Bool.cond_eq_ite, Nat.beq_eq] at hq
        simp only [xOf, Exit.inBlock]
        split
        · rename_i hi; rw [if_pos hi] at hq; exact hn .normal ae' L' F' a' w' rfl hq he haw ha' hs hd
        · rename_i hi; rw [if_neg hi] at hq; exact hn (.exit i) ae' L' F' a' w' rfl hq he haw ha' hs hd
      | panic d => cases hne
      | normal => exact hn .normal ae' L' F' a' w' rfl hq he haw ha' hs hd
      | ret => exact hn .ret ae' L' F' a' w' rfl hq he haw ha' hs hd
    · intro d ae' L' F' a' w' v hq he haw hr hd hs
      exact hx d ae' L' F' a' w' v hq he haw hr hd hs
  | seq x y ihx ihy =>
    intro ae L F w a Q h aw ha hl hnd hdr Qa hn hx
    have hx1 : ∀ i, i ∈ dsts x → i ∈ dsts (.seq x y) := fun i hi => by simp [dsts, hi]
    have hy1 : ∀ i, i ∈ dsts y → i ∈ dsts (.seq x y) := fun i hi => by simp [dsts, hi]
    have hndx : noDef x = true ∨ A.j = [] := hnd.imp (fun h => by simp only [noDef, Bool.and_eq_true] at h; exact h.1) id
    have hndy : noDef y = true ∨ A.j = [] := hnd.imp (fun h => by simp only [noDef, Bool.and_eq_true] at h; exact h.2) id
    unfold aex at h
    split at h
    · rename_i V hV
      rw [Bool.cond_eq_ite] at h
      split at h
      case isFalse => exact h.elim
      rename_i hsub
      obtain ⟨J, hF, hG⟩ := h
      have hnx : noDef x = true := hndx.resolve_right (fun hA => by rw [hA] at hV; cases hV)
      refine wp_seq (ihx ae L F w a _ hG aw ha (fun i hi => hl i (hx1 i hi)) hndx hdr.1 _ ?_ ?_)
      · intro z ae' L' F' a' w' hne hq he haw ha' hs hd
        cases z with
        | normal =>
          obtain ⟨vs', L2', hg, hJ⟩ := hq
          obtain ⟨F2', he, haw, haj⟩ := ha.joinG he aw haw ha' V hs (hd hnx) hg
          refine ihy _ L2' F2' w' a' Q (hF _ L2' hJ) haw haj (fun i hi => hl i (hy1 i hi)) hndy hdr.2 Qa ?_ ?_
          · intro z2 e2 L2 F2 a2 w2 hne2 hq2 he2 haw2 ha2 hs2 hd2
            refine hn z2 e2 L2 F2 a2 w2 hne2 hq2 (he.trans he2) haw2 ha2 (fun i hi => ?_) (fun hno => ?_)
            · rw [hs2 i (fun hh => hi (hy1 i hh)), hs i (fun hh => hi (hx1 i hh))]
            · simp only [noDef, Bool.and_eq_true] at hno
              exact (hd2 hno.2).trans (hd hnx)
          · intro d e2 L2 F2 a2 w2 v hq2 he2 haw2 hr2 hd2 hs2
            exact hx d e2 L2 F2 a2 w2 v hq2 (he.trans he2) haw2 hr2 hd2 ((hs.mono hx1).trans (hs2.mono hy1))
        | panic d => cases hne
        | exit i => exact hn (.exit i) ae' L' F' a' w' rfl hq he haw ha' (hs.mono hx1) fun _ => hd hnx
        | ret => exact hn .ret ae' L' F' a' w' rfl hq he haw ha' (hs.mono hx1) fun _ => hd hnx
      · intro d e2 L2 F2 a2 w2 v hq2 he2 haw2 hr2 hd2 hs2
        exact hx d e2 L2 F2 a2 w2 v hq2 he2 haw2 hr2 hd2 (hs2.mono hx1)
    · refine wp_seq (ihx ae L F w a _ h aw ha (fun i hi => hl i (hx1 i hi)) hndx hdr.1 _ ?_ ?_)
      · intro z ae' L' F' a' w' hne hq he haw ha' hs hd
        have hd' : noDef (.seq x y) = true → a'.defers = a.defers := fun h => hd (by simp only [noDef, Bool.and_eq_true] at h; exact h.1)
        cases z with
        | normal =>
          refine ihy ae' L' F' w' a' Q hq haw ha' (fun i hi => hl i (hy1 i hi)) hndy hdr.2 Qa ?_ ?_
          · intro z2 e2 L2 F2 a2 w2 hne2 hq2 he2 haw2 ha2 hs2 hd2
            refine hn z2 e2 L2 F2 a2 w2 hne2 hq2 (he.trans he2) haw2 ha2 (fun i hi => ?_) (fun hno => ?_)
            · rw [hs2 i (fun hh => hi (hy1 i hh)), hs i (fun hh => hi (hx1 i hh))]
            · have h2 : noDef y = true := by simp only [noDef, Bool.and_eq_true] at hno; exact hno.2
              rw [hd2 h2, hd' hno]
          · intro d e2 L2 F2 a2 w2 v hq2 he2 haw2 hr2 hd2 hs2
            exact hx d e2 L2 F2 a2 w2 v hq2 (he.trans he2) haw2 hr2 hd2 ((hs.mono hx1).trans (hs2.mono hy1))
        | panic d => cases hne
        | exit i => exact hn (.exit i) ae' L' F' a' w' rfl hq he haw ha' (hs.mono hx1) hd'
        | ret => exact hn .ret ae' L' F' a' w' rfl hq he haw ha' (hs.mono hx1) hd'
      · intro d e2 L2 F2 a2 w2 v hq2 he2 haw2 hr2 hd2 hs2
        exact hx d e2 L2 F2 a2 w2 v hq2 he2 haw2 hr2 hd2 (hs2.mono hx1)
  | loop c ih =>
    intro ae L F w a Q h aw ha hl hnd hdr Qa hn hx
    unfold aex at h
    split at h
    case h_2 => exact h.elim
    rename_i V hV
    rw [Bool.cond_eq_ite] at h
    split at h
    case isFalse => exact h.elim
    rename_i hsub
    have hnc : noDef c = true := hnd.resolve_right (fun hA => by rw [hA] at hV; cases hV)
    obtain ⟨I, μ, ⟨v0, L0, hg0, hI⟩, hR⟩ := h
    obtain ⟨F0, he0, haw0, ha0⟩ := ha.joinG (E := dsts c) (Ev.refl ..) aw aw ha V (ASame.refl _ _) rfl hg0
    refine wp_loop_of (σ := List D × List Bx × (Nat → Prop))
      (fun x a1 w1 => I x.1 x.2.1 ∧ Ev F L w x.2.2 x.2.1 w1 ∧ AW x.2.2 x.2.1 w1 ∧ AAgree x.2.2 w1 n ((ae.mix (dsts c)).putL V x.1) a1 ∧ ASame (dsts c) a a1 ∧ a1.defers = a.defers) (fun x => μ x.1 x.2.1) (v0, L0, F0)
      ⟨hI, he0, haw0, ha0, ASame.refl _ _, rfl⟩ ?_
    rintro ⟨vs, L1, F1⟩ a1 w1 ⟨hI1, he1, haw1, ha1, hs1, hd1⟩ Qr hr1 hr2
    simp only at hI1 he1 haw1 ha1 hr1
    refine ih _ L1 F1 w1 a1 _ (hR vs L1 hI1) haw1 ha1 hl hnd hdr _ ?_ ?_
    · intro z ae' L' F' a' w' hne hq he haw ha' hs hd
      have hs' := hs1.trans hs
      have hd' := (hd hnc).trans hd1
      have he' := he1.trans he
      cases z with
      | normal =>
        obtain ⟨v2, L2, hg, hq1, hq2⟩ := hq
        obtain ⟨F2, he2, haw2, ha2⟩ := ha.joinG he' aw haw ha' V hs' hd' hg
        exact hr1 (v2, L2, F2) a' w' ⟨hq1, he2, haw2, ha2, hs', hd'⟩ hq2
      | panic d => cases hne
      | exit i => exact hr2 _ a' w' (by simp [xOf]) (hn (.exit i) ae' L' F' a' w' rfl hq he' haw ha' hs' fun _ => hd')
      | ret => exact hr2 _ a' w' (by simp [xOf]) (hn .ret ae' L' F' a' w' rfl hq he' haw ha' hs' fun _ => hd')
    · intro d e2 L2 F2 a2 w2 v hq2 he2 haw2 hr hd2 hs2
      exact hr2 _ a2 w2 (by simp) (hx d e2 L2 F2 a2 w2 v hq2 (he1.trans he2) haw2 hr hd2 (hs1.trans hs2))

theorem aretG_sound {F : Nat → Prop} {L : List Bx} {w : World} (aw : AW F L w) : ∀ (rs : List ResultVar) (ae : AEnv) (a : Act) (k : List D → Prop), aretG P rs ae L k → AAgree F w n ae a →
    ∃ l vs, (rs.mapM (resF a.tmps)).run P w = .ok vs w ∧ Reps F w l vs ∧ k l
  | [], ae, a, k, h, ha => ⟨[], [], by simp, reps_nil, h⟩
  | .tmp t :: rs, ae, a, k, h, ha => by
    simp only [aretG] at h
    obtain ⟨l, vs, hl, hr, hk⟩ := aretG_sound aw rs ae a _ h ha
    refine ⟨ae.get t :: l, a.tmps.getD t undef :: vs, ?_, reps_cons (ha.tmp t) hr, hk⟩
    have h1 : (resF a.tmps (.tmp t)).run P w = .ok (a.tmps.getD t undef) w := by simp only [resF, Sem.run_pure]
    simp only [List.mapM_cons, Sem.run_bind, Sem.run_pure, Result.andThen_ok, h1, hl]
  | .cell x t :: rs, ae, a, k, h, ha => by
    simp only [aretG] at h
    cases hu : P.underlying t with
    | none => simp only [hu] at h
    | some d =>
      simp only [hu] at h
      obtain ⟨i, hi⟩ := info_of_underlying hu
      have hx := ha.tmp x
      cases hg : isAgg d with
      | true =>
        simp only [hg, cond_true] at h
        have := aldN_ok (kc := fun v => ∃ d, Rep F w d v ∧ aretG P rs ae L fun l => k (d :: l)) h aw hx (fun d r h1 h2 => ⟨d, h2, h1⟩)
        unfold ldN at this
        split at this
        case h_2 => exact this.elim
        rename_i ad hp
        obtain ⟨l0, hl0, hc, d0, hr0, hk⟩ := this
        obtain ⟨l, vs, hl, hr, hk⟩ := aretG_sound aw rs ae a _ hk ha
        refine ⟨d0 :: l, .agg l0.toArray :: vs, ?_, reps_cons hr0 hr, hk⟩
        have hrun : (loadCells ad l0.length).run P w = .ok l0.toArray w := run_loadCells_list (w := w) ad l0 (fun j v hv => by
          obtain ⟨hj, rfl⟩ := List.getElem?_eq_some_iff.1 hv
          exact hc j hj)
        have h1 : (resF a.tmps (.cell x t)).run P w = .ok (.agg l0.toArray) w := by
          simp only [resF, Sem.run_bind, Sem.run_pure, Result.andThen_ok, hp, asAddr, loadVar, run_isAgg hu, hg, if_true, run_sizeOf' hi, ← hl0, hrun]
        simp only [List.mapM_cons, Sem.run_bind, Sem.run_pure, Result.andThen_ok, h1, hl]
      | false =>
        simp only [hg, cond_false] at h
        have := ald1_ok (kc := fun v => ∃ d, Rep F w d v ∧ aretG P rs ae L fun l => k (d :: l)) h aw hx (fun d r h1 h2 => ⟨d, h2, h1⟩)
        unfold ld1 at this
        split at this
        case h_2 => exact this.elim
        rename_i ad hp
        obtain ⟨v, hc, d0, hr0, hk⟩ := this
        obtain ⟨l, vs, hl, hr, hk⟩ := aretG_sound aw rs ae a _ hk ha
        refine ⟨d0 :: l, v :: vs, ?_, reps_cons hr0 hr, hk⟩
        have h1 : (resF a.tmps (.cell x t)).run P w = .ok v w := by
          simp [resF, hp, asAddr, loadVar, run_isAgg hu, hg, hc]
        simp only [List.mapM_cons, Sem.run_bind, Sem.run_pure, Result.andThen_ok, h1, hl]
theorem atup_ok {F : Nat → Prop} {w : World} {l : List D} {vs : List Value} (h : Reps F w l vs) : Rep F w (atup l) (if h : vs.toArray.size = 1 then vs.toArray[0] else .tuple vs.toArray) := by
  match l, vs, h with
  | [], vs, h =>
    rw [Reps] at h
    subst h
    show Rep F w (.tuple []) (.tuple _)
    rw [Rep]; exact ⟨[], rfl, reps_nil⟩
  | [d], vs, h =>
    obtain ⟨v, rfl, hr⟩ := h.one
    exact hr
  | d :: d' :: l, vs, h =>
    have hlen := h.length
    rw [dif_neg (by simp at hlen ⊢; omega)]
    show Rep F w (.tuple _) _
    rw [Rep]
    exact ⟨vs, rfl, h⟩
theorem reps_getD {F : Nat → Prop} {w : World} : ∀ {l : List D} {vs : List Value}, Reps F w l vs → ∀ i, Rep F w (l.getD i .top) (vs.getD i undef) := by
  intro l vs h i
  cases hd : l[i]? with
  | none => rw [List.getD_eq_getElem?_getD, hd]; exact rep_top
  | some d =>
    obtain ⟨v, hv, hr⟩ := h.get hd
    rw [List.getD_eq_getElem?_getD, hd, List.getD_eq_getElem?_getD, hv]
    exact hr
/-- A FUNCTION's CALL, out of what must hold ahead of its body -/
theorem aspec_of_ex {f : FuncId} {fn : Func} {c : Code} {A : An} {args : List D} {L : List Bx} {R : AE → List Bx → Prop}
    (hf : P.funcs[f]? = some fn) (hb : fn.body = some c) (hname : fn.name ≠ "runtime.NumGoroutine")
    (hchk : (ltB (args.length + (fn.ntmps - args.length)) (dsts c) && (noDef c || nulB A.j)) = true) (hdr : DrawsOk P (args.length + (fn.ntmps - args.length)) A c)
    (h : aex P A c (aenv0 args) L (apost P fn.results.toList R)) : ASpec P f args L R := by
  intro F w vs aw hr
  refine .inl ⟨⟨fn, hf, by simp [hb], hname⟩, calls_of_wp hf hb ?_⟩
  simp only [Bool.and_eq_true, Bool.or_eq_true] at hchk
  have hlen := hr.length
  have ha : AAgree F w (args.length + (fn.ntmps - args.length)) (aenv0 args) { tmps := vs.toArray ++ Array.replicate (fn.ntmps - vs.toArray.size) undef, defers := [] } := by
    refine ⟨by simp [hlen], fun i => ?_, rfl⟩
    have := reps_getD hr i
    have e : (vs.toArray ++ Array.replicate (fn.ntmps - vs.toArray.size) undef).getD i undef = vs.getD i undef := by
      simp only [Array.getD_eq_getD_getElem?, List.getD_eq_getElem?_getD, Array.getElem?_append]
      split
      · simp
      · rename_i hi
        rw [Array.getElem?_replicate, List.getElem?_eq_none (by simpa using hi)]
        split <;> rfl
    simp only
    rw [e]
    exact this
  have hnd : noDef c = true ∨ A.j = [] := hchk.2.imp id (fun h => by
    unfold nulB at h
    split at h
    · assumption
    · cases h)
  have key : ∀ (ae' : AEnv) (L' : List Bx) (F' : Nat → Prop) (a' : Act) (w' : World), Ev F L w F' L' w' → AW F' L' w' → AAgree F' w' (args.length + (fn.ntmps - args.length)) ae' a' →
      (match ae'.dfr with | [] => aretG P fn.results.toList ae' L' fun l => R (.ret (atup l)) L' | _ => False) →
      a'.defers = [] ∧ ∃ v, (results fn a'.tmps).run P w' = .ok v w' ∧ ∃ a F' L', Ev F L w F' L' w' ∧ AW F' L' w' ∧ ERep F' w' a (.returned v) ∧ R a L' := by
    intro ae' L' F' a' w' he haw ha' hq
    split at hq
    case h_2 => exact hq.elim
    rename_i hd
    obtain ⟨l, vs', hl, hr, hk⟩ := aretG_sound haw fn.results.toList ae' a' _ hq ha'
    have hdd := ha'.dfr
    rw [hd] at hdd
    refine ⟨hdd, _, ?_, .ret (atup l), F', L', he, haw, ⟨_, rfl, atup_ok hr⟩, hk⟩
    have hm : (fn.results.mapM (resF a'.tmps)).run P w' = .ok vs'.toArray w' := by
      generalize fn.results = rs at hl
      obtain ⟨rs⟩ := rs
      simp only [List.mapM_toArray, Sem.run_map, hl]
      rfl
    rw [results_eq]
    simp only [Sem.run_bind]
    rw [hm]
    simp only [Result.andThen_ok, Sem.run_pure]
  refine aex_sound c (aenv0 args) L F w _ _ h aw ha (ltB_spec _ hchk.1) hnd hdr _ ?_ ?_
  · intro ax ae' L' F' a' w' hne hq he haw ha' _ _
    cases ax with
    | normal => exact key ae' L' F' a' w' he haw ha' hq
    | ret => exact key ae' L' F' a' w' he haw ha' hq
    | panic d => cases hne
    | exit i => exact hq.elim
  · intro d ae' L' F' a' w' v hq he haw hr hd _
    simp only [apost] at hq
    split at hq
    case h_2 => exact hq.elim
    rename_i hdd
    rw [hdd] at hd
    exact ⟨hd, .pan d, F', L', he, haw, ⟨v, rfl, hr⟩, hq⟩
end
section
variable {P : Program} {F F' F1 : Nat → Prop} {w w' : World} {L L' L1 L2 M : List Bx}
/-! ### own blocks in another order, and fewer of them -/
theorem AW.perm (a : AW F L w) (h : L.Perm L') : AW F L' w :=
  ⟨fun x hx => a.own x (h.mem_iff.2 hx), (h.map Bx.b).nodup_iff.1 a.nodup, fun x hx => a.sep x (h.mem_iff.2 hx), a.lt⟩
theorem AW.left (a : AW F (L ++ M) w) : AW F L w :=
  ⟨fun x hx => a.own x (by simp [hx]), by have := a.nodup; rw [List.map_append, List.nodup_append] at this; exact this.1, fun x hx => a.sep x (by simp [hx]), a.lt⟩
theorem Ev.perm (e : Ev F L w F' L' w') (h : L.Perm L1) (h' : L'.Perm L2) : Ev F L1 w F' L2 w' :=
  ⟨e.os, e.tape, e.output, e.size, fun k hk hn => e.block k hk fun x hx => hn x (h.mem_iff.1 hx), e.grow, fun k hk hf => (e.old k hk hf).imp id fun ⟨x, hx, he⟩ => ⟨x, h.mem_iff.1 hx, he⟩,
    fun x hx hl => by obtain ⟨y, hy, he⟩ := e.own x (h'.mem_iff.2 hx) hl; exact ⟨y, h.mem_iff.1 hy, he⟩, e.drawn⟩
theorem nodup_apart (a : AW F (L ++ M) w) : ∀ x ∈ L, ∀ y ∈ M, x.b ≠ y.b := by
  have := a.nodup
  rw [List.map_append, List.nodup_append] at this
  exact fun x hx y hy => this.2.2 _ (List.mem_map_of_mem hx) _ (List.mem_map_of_mem hy)
/-- the others stay beside -/
theorem AW.frame (a : AW F (L ++ M) w) (e : Ev F L w F' L' w') (a' : AW F' L' w') : AW F' (L' ++ M) w' ∧ Ev F (L ++ M) w F' (L' ++ M) w' := by
  have ap := nodup_apart a
  have hM : ∀ y ∈ M, y.b < w.heap.size := fun y hy => (a.own y (by simp [hy])).lt
  have ks := e.keeps a.left
  have hL : ∀ x ∈ L', ∀ y ∈ M, x.b ≠ y.b := fun x hx y hy he => by
    obtain ⟨z, hz, hze⟩ := e.own x hx (by rw [he]; exact hM y hy)
    exact ap z hz y hy (hze.trans he)
  refine ⟨⟨?_, ?_, ?_, a'.lt⟩, ⟨e.os, e.tape, e.output, e.size, ?_, e.grow, ?_, ?_, e.drawn⟩⟩
  · intro x hx
    rcases List.mem_append.1 hx with hx | hx
    · exact a'.own x hx
    · exact (a.own x (by simp [hx])).keep ks (e.block _ (hM x hx) fun y hy => ap y hy x hx)
  · rw [List.map_append, List.nodup_append]
    refine ⟨a'.nodup, ?_, ?_⟩
    · have := a.nodup
      rw [List.map_append, List.nodup_append] at this
      exact this.2.1
    · intro p hp q hq
      obtain ⟨x, hx, rfl⟩ := List.mem_map.1 hp
      obtain ⟨y, hy, rfl⟩ := List.mem_map.1 hq
      exact hL x hx y hy
  · intro x hx hf
    rcases List.mem_append.1 hx with hx | hx
    · exact a'.sep x hx hf
    · rcases e.old _ (hM x hx) hf with hf | ⟨y, hy, he⟩
      · exact a.sep x (by simp [hx]) hf
      · exact ap y hy x hx he
  · intro k hk hn
    exact e.block k hk fun x hx => hn x (by simp [hx])
  · intro k hk hf
    exact (e.old k hk hf).imp id fun ⟨x, hx, he⟩ => ⟨x, by simp [hx], he⟩
  · intro x hx hl
    rcases List.mem_append.1 hx with hx | hx
    · obtain ⟨y, hy, he⟩ := e.own x hx hl; exact ⟨y, by simp [hy], he⟩
    · exact ⟨x, by simp [hx], rfl⟩
end
end Go.V
