/- What is said of a piece of code over data is so in the model; regions that draw their order left open. -/
import Derived.Test.YtlonmopppgadgaaDoorA3
import Derived.Test.YtlonmopppgadgaaDoorV2
set_option linter.unusedVariables false
namespace Go.V
open Go

def DReps (F : Nat → Prop) (w : World) : List (Nat × List D × List D) → List Deferred → Prop
  | [], ds => ds = []
  | (g, c, a) :: r, ds => ∃ cs as s, ds = { target := .fn (.func g) (List.toArray cs), args := List.toArray as } :: s ∧ Reps F w c cs ∧ Reps F w a as ∧ DReps F w r s
structure AAgree (F : Nat → Prop) (w : World) (n : Nat) (ae : AEnv) (a : Act) : Prop where
  size : a.tmps.size = n
  tmp : ∀ i, Rep F w (ae.get i) (a.tmps.getD i undef)
  dfr : DReps F w ae.dfr a.defers
def envOf (a : Act) : Env := ⟨fun i => a.tmps.getD i undef, a.defers⟩
/-- all other slots are as they were -/
def ASame (D : List Nat) (a a' : Act) : Prop := ∀ i, i ∉ D → a'.tmps.getD i undef = a.tmps.getD i undef
section
variable {P : Program} {n : Nat} {F F' : Nat → Prop} {w w' : World} {L L' : List Bx} {ae : AEnv} {a : Act} {o : Oper}
theorem AAgree.agree (h : AAgree F w n ae a) : Agree n (envOf a) a := ⟨h.size, fun _ => rfl, rfl⟩
theorem DReps.keep (k : Keeps F w F' w') : ∀ {r : List (Nat × List D × List D)} {ds : List Deferred}, DReps F w r ds → DReps F' w' r ds
  | [], _, h => h
  | (g, c, a) :: r, _, h => by
    obtain ⟨cs, as, s, rfl, h1, h2, h3⟩ := h
    exact ⟨cs, as, s, rfl, Reps.keep k _ _ h1, Reps.keep k _ _ h2, DReps.keep k h3⟩
theorem AAgree.move (h : AAgree F w n ae a) (e : Ev F L w F' L' w') (aw : AW F L w) : AAgree F' w' n ae a :=
  ⟨h.size, fun i => (h.tmp i).ev e aw, h.dfr.keep (e.keeps aw)⟩
theorem rep_top {v : Value} : Rep F w .top v := by rw [Rep]; trivial
theorem AAgree.ev (h : AAgree F w n ae a) (x : Operand) : Rep F w (ae.ev x) (a.eval x) := by
  cases x with
  | tmp t => exact h.tmp t
  | const v =>
    show Rep F w (bif okB v then .val v else .top) v
    rw [Bool.cond_eq_ite]
    split
    · rename_i ho; exact rep_val (okv_of ho)
    · exact rep_top
  | global g => exact rep_val trivial
  | func f =>
    show Rep F w (.fn f [] []) (.func (.func f) #[] #[])
    rw [Rep]
    exact ⟨[], [], rfl, reps_nil, reps_nil⟩
theorem AEnv.get_put (e : AEnv) (d : Nat) (v : D) (i : Nat) : (e.put (some d) v).get i = if i = d then v else e.get i := by
  simp only [AEnv.put, Bool.cond_eq_ite]
  by_cases h : i = d
  · simp [h]
  · rw [if_neg h, if_neg (by simp [Nat.beq_eq, h])]
theorem AEnv.dfr_put (e : AEnv) (d : Option Tmp) (v : D) : (e.put d v).dfr = e.dfr := by cases d <;> rfl
theorem put_get (a : Act) (n : Nat) (h : a.tmps.size = n) (d : Nat) (hd : d < n) (v : Value) (i : Nat) : (a.put (some d) v).tmps.getD i undef = if i = d then v else a.tmps.getD i undef := by
  have hl : d < a.tmps.size := by rw [h]; exact hd
  simp only [Act.put, Array.getD_eq_getD_getElem?, Array.getElem?_setIfInBounds]
  by_cases hi : i = d
  · subst hi; simp [hl]
  · rw [if_neg (fun hh => hi hh.symm), if_neg hi]
theorem AAgree.put (h : AAgree F w n ae a) {d : Option Tmp} (hd : ∀ x, d = some x → x < n) {x : D} {v : Value} (hv : Rep F w x v) : AAgree F w n (ae.put d x) (a.put d v) := by
  cases d with
  | none => exact h
  | some d =>
    refine ⟨by simp [Act.put, h.size], fun i => ?_, h.dfr⟩
    rw [AEnv.get_put, put_get a n h.size d (hd d rfl) v i]
    split
    · exact hv
    · exact h.tmp i
theorem asame_put (h : AAgree F w n ae a) {d : Option Tmp} (hd : ∀ x, d = some x → x < n) (v : Value) (E : List Nat) (he : ∀ x, d = some x → x ∈ E) : ASame E a (a.put d v) := fun i hi => by
  cases d with
  | none => rfl
  | some d => rw [put_get a n h.size d (hd d rfl) v i, if_neg]; rintro rfl; exact hi (he i rfl)
theorem ASame.refl (E : List Nat) (a : Act) : ASame E a a := fun _ _ => rfl
theorem ASame.trans {E : List Nat} {a a' a'' : Act} (h : ASame E a a') (h' : ASame E a' a'') : ASame E a a'' := fun i hi => (h' i hi).trans (h i hi)
theorem ASame.mono {D E : List Nat} {a a' : Act} (h : ASame D a a') (hs : ∀ i ∈ D, i ∈ E) : ASame E a a' := fun i hi => h i fun hh => hi (hs i hh)
theorem amix_get (e : AEnv) (E : List Nat) (i : Nat) : (e.mix E).get i = if i ∈ E then .top else e.get i := by
  simp only [AEnv.mix, Bool.cond_eq_ite, mem_iff]
theorem pos_lt : ∀ (V : List Nat) (i j q : Nat), pos i V j = some q → j ≤ q ∧ V[q - j]? = some i
  | [], _, _, _, h => by cases h
  | d :: V, i, j, q, h => by
    simp only [pos, Bool.cond_eq_ite] at h
    split at h
    · rename_i hi
      rw [Nat.beq_eq] at hi
      injection h with h
      subst h; subst hi
      exact ⟨Nat.le_refl _, by simp⟩
    · obtain ⟨h1, h2⟩ := pos_lt V i (j + 1) q h
      refine ⟨by omega, ?_⟩
      rw [show q - j = (q - (j + 1)) + 1 by omega]
      simpa using h2
theorem pos_none_iff : ∀ (V : List Nat) (i j : Nat), pos i V j = none → i ∉ V
  | [], _, _, _ => by simp
  | d :: V, i, j, h => by
    simp only [pos, Bool.cond_eq_ite] at h
    split at h
    · cases h
    · rename_i hi
      rw [Nat.beq_eq] at hi
      simp only [List.mem_cons, not_or]
      exact ⟨hi, pos_none_iff V i (j + 1) h⟩
theorem amapG_ok {ae : AEnv} {a : Act} (h : AAgree F w n ae a) : ∀ V : List Nat, Reps F w (amapG ae V) (V.map fun d => a.tmps.getD d undef)
  | [] => reps_nil
  | d :: V => reps_cons (h.tmp d) (amapG_ok h V)
/-- the slots V as is said, of those that were written nothing else, all others as of old -/
theorem AAgree.join {E : List Nat} (h0 : ∀ i, i ∉ E → Rep F' w' (ae.get i) (a.tmps.getD i undef)) {a' : Act} (hz : a'.tmps.size = n) (V : List Nat) {vs : List D} (hv : Reps F' w' vs (V.map fun d => a'.tmps.getD d undef)) (hs : ASame E a a')
    (hd : DReps F' w' ae.dfr a'.defers) : AAgree F' w' n ((ae.mix E).putL V vs) a' := by
  refine ⟨hz, fun i => ?_, hd⟩
  show Rep F' w' (match pos i V 0 with | some j => aix vs j | none => (ae.mix E).get i) _
  cases hp : pos i V 0 with
  | some q =>
    obtain ⟨_, h2⟩ := pos_lt V i 0 q hp
    simp only
    have h3 : (V.map fun d => a'.tmps.getD d undef)[q]? = some (a'.tmps.getD i undef) := by
      rw [List.getElem?_map]
      rw [Nat.sub_zero] at h2
      rw [h2]; rfl
    unfold aix
    rw [List.getD_eq_getElem?_getD]
    cases hq : vs[q]? with
    | none => exact rep_top
    | some d =>
      obtain ⟨v, h4, h5⟩ := hv.get hq
      rw [h3] at h4
      injection h4 with h4
      rw [h4]; exact h5
  | none =>
    simp only
    rw [amix_get]
    split
    · exact rep_top
    · rename_i hE
      rw [hs i hE]
      exact h0 i hE
/-- behind a piece of code, and with what is said anew of the slots V -/
theorem AAgree.joinG {E : List Nat} {ae' : AEnv} {a' : Act} (h0 : AAgree F w n ae a) (e : Ev F L w F' L' w') (aw : AW F L w) (aw' : AW F' L' w') (h : AAgree F' w' n ae' a') (V : List Nat) (hs : ASame E a a') (hd : a'.defers = a.defers)
    {vs : List D} {L2 : List Bx} (hg : Gl (amapG ae' V) L' vs L2) : ∃ F2, Ev F L w F2 L2 w' ∧ AW F2 L2 w' ∧ AAgree F2 w' n ((ae.mix E).putL V vs) a' := by
  obtain ⟨F2, e2, aw2, r2⟩ := hg F' w' _ aw' (amapG_ok h V)
  have e3 := e.trans e2
  exact ⟨F2, e3, aw2, AAgree.join (a := a) (fun i _ => (h0.tmp i).ev e3 aw) h.size V r2 hs (by rw [hd]; exact h0.dfr.keep (e3.keeps aw))⟩
theorem acnd_spec {c : D} {A B : Prop} {v : Value} (h : acnd c A B) (hr : Rep F w c v) : ∃ t, c = .val (.bool t) ∧ v = .bool t ∧ (t = true → A) ∧ (t = false → B) := by
  unfold acnd at h
  split at h
  · rename_i t
    obtain ⟨rfl, _⟩ := rep_val_iff.1 hr
    cases t
    · exact ⟨false, rfl, rfl, (fun h => by cases h), fun _ => h⟩
    · exact ⟨true, rfl, rfl, fun _ => h, (fun h => by cases h)⟩
  · exact h.elim

theorem aopV_sound {k : AEnv → List Bx → Prop} {kp : D → List Bx → Prop} {next : Act → World → Prop} {Q : Exit → Act → World → Prop}
    (h : aopV P o ae L k kp) (aw : AW F L w) (ha : AAgree F w n ae a) (hd : ∀ x, o.dst = some x → x < n)
    (hk : ∀ ae' L' F' a' w', k ae' L' → Ev F L w F' L' w' → AW F' L' w' → AAgree F' w' n ae' a' → ASame (dstsO [o]) a a' → ((∀ c, o.op ≠ .defer c) → a'.defers = a.defers) → next a' w')
    (hp : ∀ d L' F' w' v, kp d L' → Ev F L w F' L' w' → AW F' L' w' → Rep F' w' d v → Q (.panic [{ v := v, recovered := false }]) a w') : o.wp P a w next Q := by
  unfold Oper.wp
  by_cases hdef : ∃ c, o.op = .defer c
  · obtain ⟨c, hc⟩ := hdef
    simp only [aopV, hc] at h
    split at h
    case h_2 => exact h.elim
    rename_i f hf
    split at h
    case h_2 => exact h.elim
    rename_i g first cap hv
    have hfr := ha.ev f
    rw [hv, Rep] at hfr
    obtain ⟨as, cs, hfe, h1, h2⟩ := hfr
    have hargs := mapO_ok (F := F) (w := w) (ρ := ae.ev) (ρc := a.eval) (l := c.args.toList) (fun x _ => ha.ev x)
    have hr : (execOp a.eval o).run P w = .ok (.defer { target := .fn (.func g) cs.toArray, args := (as ++ c.args.toList.map a.eval).toArray }) w := by
      have he : as.toArray ++ c.args.map a.eval = (as ++ c.args.toList.map a.eval).toArray := by apply Array.toList_inj.1; simp
      unfold execOp
      simp [hc, resolve, hf, Deferred.ofValue, hfe, he]
    rw [hr, Oper.upon_defer]
    have hput := ha.put hd (rep_val (F := F) (w := w) (v := undef) trivial)
    refine hk _ _ F _ _ h (Ev.refl ..) aw ⟨?_, ?_, ?_⟩ ?_ (fun hh => absurd hc (hh c))
    · rw [← hput.size]; cases o.dst <;> rfl
    · intro i
      have := hput.tmp i
      cases hdd : o.dst <;> rw [hdd] at this <;> exact this
    · refine ⟨cs, as ++ c.args.toList.map a.eval, a.defers, ?_, h2, h1.append hargs, ha.dfr⟩
      cases o.dst <;> rfl
    · intro i hi
      have := asame_put ha hd undef (dstsO [o]) (fun x hx => dstsO_mem hx) i hi
      cases hdd : o.dst <;> rw [hdd] at this <;> exact this
  · have hop : aopV P o ae L k kp = aopK P false o.type o.op ae.ev L (fun v L' => k (ae.put o.dst v) L') kp := by
      unfold aopV
      split
      · rename_i c hc; exact absurd ⟨c, hc⟩ hdef
      · rw [aopQ_eq]
    rw [hop] at h
    have hkk : ∀ d L' v w' F', k (ae.put o.dst d) L' → Ev F L w F' L' w' → AW F' L' w' → Rep F' w' d v → next (a.put o.dst v) w' := fun d L' v w' F' h1 h2 h3 h4 =>
      hk _ _ F' _ _ h1 h2 h3 ((ha.move h2 aw).put hd h4) (asame_put ha hd v _ fun x hx => dstsO_mem hx) (fun _ => by cases o.dst <;> rfl)
    have hout := opK_sound (aopK_sound (ρc := a.eval) (kc := fun v w' => next (a.put o.dst v) w') (kpc := fun c w' => Q (.panic c) a w') h aw (fun x _ => ha.ev x) hkk (fun d L' v w' F' h1 h2 h3 h4 => hp d L' F' w' v h1 h2 h3 h4))
    generalize (execOp a.eval o).run P w = r at hout
    cases hout with
    | value v w' h => rw [Oper.upon_value]; exact h
    | skip w' h => rw [Oper.upon_skip]; exact h
    | enter g args h =>
      rw [Oper.upon_enter]
      refine h.mono fun x w' hx => ?_
      cases x with
      | returned v => exact hx
      | panicked c => exact hx
      | outgrown => exact hx.elim
    | panic v w' h => rw [Oper.upon_panic]; exact h

theorem aput_same {d : Nat} {v : D} (h : ae.get d = v) : ae.put (some d) v = ae := by
  obtain ⟨g, f⟩ := ae
  simp only [AEnv.put, AEnv.mk.injEq, and_true]
  funext i
  rw [Bool.cond_eq_ite]
  split
  · rename_i hi
    rw [Nat.beq_eq] at hi
    rw [hi]; exact h.symm
  · rfl
theorem aopsV_sound {an : Nat → Option (List Nat)} {ops : Array Oper} : ∀ (fuel : Nat) (nj : List Nat) (l : List Oper) (ae : AEnv) (L : List Bx) (F : Nat → Prop) (w : World) (a : Act) (Q : AX → AEnv → List Bx → Prop),
    aopsV P an ops fuel nj l ae L Q → AW F L w → AAgree F w n ae a → lt n (dstsO l) → (noDefO l = true ∨ ∀ k, an k = none) → ∀ (suf : List Oper) (Qa : Exit → Act → World → Prop),
    (∀ ae' L' F' a' w', Q .normal ae' L' → Ev F L w F' L' w' → AW F' L' w' → AAgree F' w' n ae' a' → ASame (dstsO l) a a' → (noDefO l = true → a'.defers = a.defers) → wpList P ops Qa suf a' w') →
    (∀ d ae' L' F' a' w' v, Q (.panic d) ae' L' → Ev F L w F' L' w' → AW F' L' w' → Rep F' w' d v → DReps F' w' ae'.dfr a'.defers → ASame (dstsO l) a a' → Qa (.panic [{ v := v, recovered := false }]) a' w') → wpList P ops Qa (l ++ suf) a w := by
  intro fuel
  induction fuel with
  | zero => intro nj l ae L F w a Q h; exact h.elim
  | succ fuel ih =>
    intro nj l ae L F w a Q h aw ha hl hnd suf Qa hn hx
    cases l with
    | nil => exact hn ae L F a w h (Ev.refl ..) aw ha (ASame.refl _ _) (fun _ => rfl)
    | cons o r =>
      unfold aopsV at h
      split at h
      · -- a joint
        rename_i G q pd rest hj
        unfold joint at hj
        split at hj
        case h_2 => cases hj
        rename_i d want hg
        split at hj
        case h_2 => cases hj
        rename_i G' q' rest' ht
        split at hj
        case h_2 => cases hj
        rename_i pd' hpd
        split at hj
        case h_2 => cases hj
        rename_i Lx hL
        rw [Bool.cond_eq_ite] at hj
        split at hj
        · cases hj
        simp only [Option.some.injEq, Prod.mk.injEq] at hj
        obtain ⟨rfl, rfl, rfl, rfl⟩ := hj
        have happ := takeG_app ops d want [] (o :: r)
        rw [ht] at happ
        have hls : o :: r = (G' ++ [q']) ++ rest' := by rw [← happ]; simp
        have hnd' : noDefO ((G' ++ [q']) ++ rest') = true := by
          rw [← hls]
          rcases hnd with h | h
          · exact h
          · rw [h] at hL; cases hL
        rw [noDefO_app, Bool.and_eq_true] at hnd'
        unfold ajn at h
        obtain ⟨J, hF, hG⟩ := h
        rw [hls] at hl hn hx ⊢
        rw [List.append_assoc]
        have hl1 : lt n (dstsO (G' ++ [q'])) := fun x hx => hl x ((dstsO_app _ _ x).2 (.inl hx))
        have hl2 : lt n (dstsO rest') := fun x hx => hl x ((dstsO_app _ _ x).2 (.inr hx))
        refine ih _ _ ae L F w a _ hG aw ha hl1 (.inl hnd'.1) (rest' ++ suf) Qa ?_ ?_
        · intro ae' L' F' a' w' hJ he haw ha' hs hdf
          obtain ⟨vs', L2', hg, hJ⟩ := hJ
          have hF' := hF vs' L2' hJ
          obtain ⟨F2', he, haw, haj⟩ := ha.joinG he aw haw ha' [pd'] hs (hdf hnd'.1) hg
          refine ih _ _ _ L2' F2' w' a' _ hF' haw haj hl2 (.inl hnd'.2) suf Qa ?_ ?_
          · intro ae2 L2 F2 a2 w2 hq he2 haw2 ha2 hs2 hd2
            refine hn ae2 L2 F2 a2 w2 hq (he.trans he2) haw2 ha2 (fun i hi => ?_) (fun _ => (hd2 hnd'.2).trans (hdf hnd'.1))
            rw [dstsO_app, not_or] at hi
            rw [hs2 i hi.2, hs i hi.1]
          · intro d ae2 L2 F2 a2 w2 v hq he2 haw2 hr2 hd2 hs2
            refine hx d ae2 L2 F2 a2 w2 v hq (he.trans he2) haw2 hr2 hd2 (fun i hi => ?_)
            rw [dstsO_app, not_or] at hi
            rw [hs2 i hi.2, hs i hi.1]
        · intro d ae2 L2 F2 a2 w2 v hq he2 haw2 hr2 hd2 hs2
          refine hx d ae2 L2 F2 a2 w2 v hq he2 haw2 hr2 hd2 (fun i hi => ?_)
          rw [dstsO_app, not_or] at hi
          exact hs2 i hi.1
      · -- none
        have hd : ∀ x, o.dst = some x → x < n := fun x hx => hl x (dstsO_mem hx)
        have hlr : lt n (dstsO r) := fun x hx => hl x (dstsO_tail hx)
        have hndr : noDefO r = true ∨ ∀ k, an k = none := hnd.imp (fun h => (noDefO_cons h).2) id
        -- one that is done
        have go : Region.wanted o (yielded ops a.tmps) = true →
            aopV P o ae L (fun e' L' => aopsV P an ops fuel nj r e' L' Q) (fun c L' => Q (.panic c) ae L') → wpList P ops Qa (o :: r ++ suf) a w := by
          intro hw hop
          refine wpList_wanted hw (aopV_sound hop aw ha hd ?_ ?_)
          · intro ae' L' F' a' w' hk he haw ha' hs hdf
            refine ih nj r ae' L' F' w' a' Q hk haw ha' hlr hndr suf Qa ?_ ?_
            · intro ae2 L2 F2 a2 w2 hq he2 haw2 ha2 hs2 hd2
              refine hn ae2 L2 F2 a2 w2 hq (he.trans he2) haw2 ha2 (fun i hi => ?_) (fun hno => ?_)
              · have h1 : i ∉ dstsO r := fun hh => hi (dstsO_tail hh)
                have h2 : i ∉ dstsO [o] := fun hh => hi (by
                  simp only [dstsO] at hh ⊢
                  cases ho : o.dst with
                  | none => rw [ho] at hh; cases hh
                  | some q => rw [ho] at hh; simp at hh; simp [hh])
                rw [hs2 i h1, hs i h2]
              · rw [hd2 (noDefO_cons hno).2, hdf (noDefO_cons hno).1]
            · intro d ae2 L2 F2 a2 w2 v hq he2 haw2 hr2 hd2 hs2
              refine hx d ae2 L2 F2 a2 w2 v hq (he.trans he2) haw2 hr2 hd2 (fun i hi => ?_)
              have h1 : i ∉ dstsO r := fun hh => hi (dstsO_tail hh)
              have h2 : i ∉ dstsO [o] := fun hh => hi (by
                simp only [dstsO] at hh ⊢
                cases ho : o.dst with
                | none => rw [ho] at hh; cases hh
                | some q => rw [ho] at hh; simp at hh; simp [hh])
              rw [hs2 i h1, hs i h2]
          · intro d L' F' w' v hq he haw hr
            exact hx d ae L' F' a w' v hq he haw hr (ha.dfr.keep (he.keeps aw)) (ASame.refl _ _)
        -- those that are passed by
        have skip : ∀ (d : Nat) (want : Bool), (envOf a).get d ≠ .bool want →
            aopsV P an ops fuel nj (takeG ops d want [] (o :: r)).2 (ae.mix (dstsO (takeG ops d want [] (o :: r)).1)) L Q → wpList P ops Qa (o :: r ++ suf) a w := by
          intro d want hne hop
          have happ := takeG_app ops d want [] (o :: r)
          have hl' : lt n (dstsO ((takeG ops d want [] (o :: r)).1 ++ (takeG ops d want [] (o :: r)).2)) := by rw [happ]; exact hl
          have hnd2 : noDefO (takeG ops d want [] (o :: r)).2 = true ∨ ∀ k, an k = none := hnd.imp (fun h => by
            rw [← happ, noDefO_app, Bool.and_eq_true] at h; exact h.2) id
          refine skip_sound (o :: r) suf [] (envOf a) a ha.agree (fun x hx => hl' x ((dstsO_app _ _ x).2 (.inl hx))) hne (fun x hx => by cases hx) ?_
          intro a' ha'
          have hs1 : ASame (dstsO (takeG ops d want [] (o :: r)).1) a a' := fun i hi => by rw [ha'.tmp i, mix_get, if_neg hi]; rfl
          have hd1 : a'.defers = a.defers := ha'.dfr
          have haa : AAgree F w n (ae.mix (dstsO (takeG ops d want [] (o :: r)).1)) a' := by
            refine ⟨ha'.size, fun i => ?_, by rw [hd1]; exact ha.dfr⟩
            rw [amix_get]
            split
            · exact rep_top
            · rename_i hi; rw [hs1 i hi]; exact ha.tmp i
          refine ih nj _ _ L F w a' Q hop aw haa (fun x hx => hl' x ((dstsO_app _ _ x).2 (.inr hx))) hnd2 suf Qa ?_ ?_
          rotate_left
          · intro d ae2 L2 F2 a2 w2 v hq he2 haw2 hr2 hd2 hs2
            refine hx d ae2 L2 F2 a2 w2 v hq he2 haw2 hr2 hd2 (fun i hi => ?_)
            rw [← happ, dstsO_app, not_or] at hi
            rw [hs2 i hi.2, hs1 i hi.1]
          intro ae2 L2 F2 a2 w2 hq he2 haw2 ha2 hs2 hd2
          refine hn ae2 L2 F2 a2 w2 hq he2 haw2 ha2 (fun i hi => ?_) (fun hno => ?_)
          · rw [← happ, dstsO_app, not_or] at hi
            rw [hs2 i hi.2, hs1 i hi.1]
          · rw [← happ, noDefO_app, Bool.and_eq_true] at hno
            rw [hd2 hno.2]
            exact hd1
        have wd : ∀ (d : Nat) (want : Bool), gdst ops o = some (some d, want) → (Region.wanted o (yielded ops a.tmps) = true ↔ (envOf a).get d = .bool want) := fun d want hg => wanted_of hg ha.agree
        split at h
        · rename_i hg
          exact go (by simp [Region.wanted, gdst_none hg]) h
        · rename_i d hg
          obtain ⟨t, hc, ht, h1, h2⟩ := acnd_spec h (ha.tmp d)
          cases t with
          | true => have := h1 rfl; rw [aput_same hc] at this; exact go ((wd d true hg).2 ht) this
          | false => have := h2 rfl; rw [aput_same hc] at this; exact skip d true (by show a.tmps.getD d undef ≠ _; rw [ht]; simp) this
        · rename_i d hg
          obtain ⟨t, hc, ht, h1, h2⟩ := acnd_spec h (ha.tmp d)
          cases t with
          | true => have := h1 rfl; rw [aput_same hc] at this; exact skip d false (by show a.tmps.getD d undef ≠ _; rw [ht]; simp) this
          | false => have := h2 rfl; rw [aput_same hc] at this; exact go ((wd d false hg).2 ht) this
        · exact h.elim

/-- what is asked of draws -/
def DrawsOk (P : Program) (n : Nat) (A : An) : Code → Prop
  | .region i ops true => ∀ (p : Plan), plOf A.p i = some p → ∀ (ae : AEnv) (L : List Bx) (F : Nat → Prop) (w : World) (a : Act) (Q : AX → AEnv → List Bx → Prop) (Qa : Exit → Act → World → Prop),
      adraw P ops p [] ae L Q → AW F L w → AAgree F w n ae a →
      (∀ ae' L' F' a' w', Q .normal ae' L' → Ev F L w F' L' w' → AW F' L' w' → AAgree F' w' n ae' a' → ASame (dstsO ops.toList) a a' → a'.defers = a.defers → Qa .normal a' w') →
      (∀ d ae' L' F' a' w' v, Q (.panic d) ae' L' → Ev F L w F' L' w' → AW F' L' w' → Rep F' w' d v → DReps F' w' ae'.dfr a'.defers → ASame (dstsO ops.toList) a a' → Qa (.panic [{ v := v, recovered := false }]) a' w') → (Code.region i ops true).wp P Qa a w
  | .seq x y => DrawsOk P n A x ∧ DrawsOk P n A y
  | .cond _ x y => DrawsOk P n A x ∧ DrawsOk P n A y
  | .block _ c => DrawsOk P n A c
  | .loop c => DrawsOk P n A c
  | _ => True
def xOf : AX → Exit
  | .normal => .normal
  | .exit i => .exit i
  | .ret => .ret
  | .panic _ => .normal
def isPan : AX → Bool
  | .panic _ => true
  | _ => false
/-- a state in which code may run -/
structure Sta (n : Nat) where
  vs : List D
  L : List Bx
theorem least {p : Nat → Prop} : ∀ n, p n → ∃ m, p m ∧ ∀ k, p k → m ≤ k := by
  intro n
  induction n using Nat.strongRecOn with
  | ind n ih =>
    intro hn
    by_cases h : ∃ k, k < n ∧ p k
    · obtain ⟨k, hk, hp⟩ := h
      exact ih k hk hp
    · exact ⟨n, hn, fun k hk => Nat.le_of_not_lt fun hl => h ⟨k, hl, hk⟩⟩
/-- a loop, by states of which the machine's own state shows one -/
theorem wp_loop_of {σ : Type} {c : Code} {a0 : Act} {w0 : World} {Q : Exit → Act → World → Prop} (I : σ → Act → World → Prop) (μ : σ → Nat) (x0 : σ) (h0 : I x0 a0 w0)
    (h : ∀ x a w, I x a w → ∀ Qr : Exit → Act → World → Prop, (∀ y a' w', I y a' w' → μ y < μ x → Qr .normal a' w') → (∀ z a' w', z ≠ .normal → Q z a' w' → Qr z a' w') → c.wp P Qr a w) : (Code.loop c).wp P Q a0 w0 := by
  classical
  have hex : ∀ a w, (∃ x, I x a w) → ∃ m, (∃ x, I x a w ∧ μ x = m) ∧ ∀ k, (∃ x, I x a w ∧ μ x = k) → m ≤ k :=
    fun a w ⟨x, hx⟩ => least (p := fun m => ∃ x, I x a w ∧ μ x = m) (μ x) ⟨x, hx, rfl⟩
  refine wp_loop (fun a w => ∃ x, I x a w) (fun a w => if hh : ∃ x, I x a w then (hex a w hh).choose else 0) ⟨x0, h0⟩ ?_
  rintro a1 w1 hI
  obtain ⟨⟨x, hx, hμ⟩, hmin⟩ := (hex a1 w1 hI).choose_spec
  refine h x a1 w1 hx _ ?_ ?_
  · intro y a' w' hy hlt
    have h2 : ∃ z, I z a' w' := ⟨y, hy⟩
    refine ⟨h2, ?_⟩
    simp only [dif_pos h2, dif_pos hI]
    have h3 := (hex _ _ h2).choose_spec.2 (μ y) ⟨y, hy, rfl⟩
    omega
  · intro z a' w' hz hq
    cases z with
    | normal => exact absurd rfl hz
    | _ => exact hq
end
end Go.V
