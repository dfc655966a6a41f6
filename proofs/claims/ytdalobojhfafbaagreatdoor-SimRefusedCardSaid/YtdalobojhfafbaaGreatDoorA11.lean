/- Calls that are deferred; what recovers. -/
import Derived.Test.YtdalobojhfafbaaGreatDoorA8
import Derived.Recover
import Derived.RangeFuncLeaves
import Derived.RangeFuncWrites
import Derived.RangeFuncNested
set_option linter.unusedVariables false
namespace Go.V
open Go
/-- how a frame stands: it returns, or panics with that -/
def MRep (F : Nat → Prop) (w : World) : Option D → FrameMode → Prop
  | none, u => u = .returning
  | some d, u => ∃ v, u = .panicking [{ v := v, recovered := false }] ∧ Rep F w d v
/-- A DEFERRED CALL, of a frame that stands so -/
def ADef (P : Program) (g : FuncId) (args : List D) (m : Option D) (L : List Bx) (R : Option D → List Bx → Prop) : Prop :=
  Enters P g ∧ ∀ F w vs u, AW F L w → Reps F w args vs → MRep F w m u → CallsD P g vs.toArray u w fun e u' w' => (∃ v, e = .returned v) ∧ ∃ m' F' L', MRep F' w' m' (settle u') ∧ Ev F L w F' L' w' ∧ AW F' L' w' ∧ R m' L'
/-- behind all that was deferred -/
def aend (R : AE → List Bx → Prop) (m : Option D) (L : List Bx) (X : Prop) : Prop :=
  match m with
  | none => X
  | some d => R (.pan d) L
def aleave (P : Program) (rs : List ResultVar) (R : AE → List Bx → Prop) (e : AEnv) : List Df → Option D → List Bx → Prop
  | [] => fun m L => aend R m L (aretG P rs e L fun l => R (.ret (atup l)) L)
  | .mark :: _ => fun _ _ => False
  | .fn g cap args :: ds => fun m L => ADef P g (args ++ cap) m L (aleave P rs R e ds)
def apostD (P : Program) (rs : List ResultVar) (R : AE → List Bx → Prop) (e1 : AEnv) : AX → AEnv → List Bx → Prop
  | .normal, e, L => aleave P rs R e e.dfr none L
  | .ret, e, L => aleave P rs R e e.dfr none L
  | .panic c, e, L => aleave P rs R e1 e.dfr (some c) L
  | _, _, _ => False
/-- code behind which something is deferred; results are what they are where the last piece begins -/
def aexD (P : Program) (A : An) (rs : List ResultVar) (R : AE → List Bx → Prop) : Code → AEnv → List Bx → Prop
  | .seq a b, e, L => aex P ⟨[], A.p⟩ a e L fun x e1 L1 => match x with
    | .normal => pcond (noDef b || nulB A.j) (aex P A b e1 L1 (apostD P rs R e1)) (aexD P A rs R b e1 L1)
    | .ret => aleave P rs R e1 e1.dfr none L1
    | _ => False
  | _, _, _ => False
def apnF (d : D) : Prop := match d with | .ifc _ _ => False | _ => False
def slots : List ResultVar → List Nat
  | [] => []
  | .tmp t :: r => t :: slots r
  | .cell a _ :: r => a :: slots r
def apartL : List Nat → List Nat → Bool
  | [], _ => true
  | a :: l, m => bif mem a m then false else apartL l m
def chkD (A : An) (sl : List Nat) : Code → Bool
  | .seq _ b => bif noDef b || nulB A.j then apartL sl (dsts b) else chkD A sl b
  | _ => false
theorem apartL_ok : ∀ {l m : List Nat}, apartL l m = true → ∀ i ∈ l, i ∉ m
  | a :: l, m, h, i, hi, him => by
    unfold apartL at h
    rw [Bool.cond_eq_ite] at h
    split at h
    · cases h
    · rename_i hm
      rcases List.mem_cons.1 hi with rfl | hi
      · exact hm ((mem_iff m i).2 him)
      · exact apartL_ok h i hi him
section
variable {P : Program} {F F' : Nat → Prop} {w w' : World} {L L' : List Bx}
theorem aretG_congr {e e' : AEnv} : ∀ (rs : List ResultVar) (k : List D → Prop), (∀ i ∈ slots rs, e.get i = e'.get i) → aretG P rs e L k → aretG P rs e' L k
  | [], k, _, h => h
  | .tmp t :: rs, k, he, h => by
    simp only [aretG] at h ⊢
    rw [← he t (by simp [slots])]
    exact aretG_congr rs _ (fun i hi => he i (by simp [slots, hi])) h
  | .cell a t :: rs, k, he, h => by
    simp only [aretG] at h ⊢
    rw [← he a (by simp [slots])]
    have m1 : ∀ (n : Nat) (p : D) (X Y : D → Prop), (∀ d, X d → Y d) → aldN n p L X → aldN n p L Y := by
      intro n p X Y hXY hh
      unfold aldN at hh ⊢
      split at hh
      · obtain ⟨i, l, kd, m, h1, h2, h3, h4⟩ := hh; exact ⟨i, l, kd, m, h1, h2, h3, hXY _ h4⟩
      · obtain ⟨m, h1, h2, h3⟩ := hh; exact ⟨m, h1, h2, hXY _ h3⟩
      · exact hh.elim
    have m2 : ∀ (p : D) (X Y : D → Prop), (∀ d, X d → Y d) → ald1 p L X → ald1 p L Y := by
      intro p X Y hXY hh
      unfold ald1 at hh ⊢
      split at hh
      · obtain ⟨i, l, kd, d, h1, h2, h3⟩ := hh; exact ⟨i, l, kd, d, h1, h2, hXY _ h3⟩
      · exact hXY _ hh
      · exact hh.elim
    split at h
    · rename_i d hu
      rw [pcond_eq, Bool.cond_eq_ite] at h ⊢
      split at h
      · rename_i hg
        rw [if_pos hg]
        exact m1 _ _ _ _ (fun d h => aretG_congr rs _ (fun i hi => he i (by simp [slots, hi])) h) h
      · rename_i hg
        rw [if_neg hg]
        exact m2 _ _ _ (fun d h => aretG_congr rs _ (fun i hi => he i (by simp [slots, hi])) h) h
    · exact h.elim
/-- results, by their slots alone -/
theorem aretS_sound (aw : AW F L w) (rs : List ResultVar) (e : AEnv) (tmps : Array Value) (k : List D → Prop) (h : aretG P rs e L k) (hs : ∀ i ∈ slots rs, Rep F w (e.get i) (tmps.getD i undef)) :
    ∃ l vs, (rs.mapM (resF tmps)).run P w = .ok vs w ∧ Reps F w l vs ∧ k l := by
  have ha : AAgree F w tmps.size ⟨fun i => bif mem i (slots rs) then e.get i else .top, []⟩ { tmps := tmps, defers := [] } := by
    refine ⟨rfl, fun i => ?_, rfl⟩
    show Rep F w (bif mem i (slots rs) then e.get i else .top) _
    rw [Bool.cond_eq_ite]
    split
    · rename_i hm; exact hs i ((mem_iff _ _).1 hm)
    · exact rep_top
  exact aretG_sound aw rs _ _ k (aretG_congr rs k (fun i hi => by
    show e.get i = (bif mem i (slots rs) then e.get i else .top)
    rw [(mem_iff _ _).2 hi]; rfl) h) ha
theorem results_run {fn : Func} {tmps : Array Value} {vs : List Value} (hl : (fn.results.toList.mapM (resF tmps)).run P w = .ok vs w) :
    (results fn tmps).run P w = .ok (if h : vs.toArray.size = 1 then vs.toArray[0] else .tuple vs.toArray) w := by
  have hm : (fn.results.mapM (resF tmps)).run P w = .ok vs.toArray w := by
    generalize fn.results = rs at hl
    obtain ⟨rs⟩ := rs
    simp only [List.mapM_toArray, Sem.run_map, hl]
    rfl
  rw [results_eq]
  simp only [Sem.run_bind]
  rw [hm]
  simp only [Result.andThen_ok, Sem.run_pure]
theorem mrep_run {m : Option D} {u : FrameMode} (h : MRep F w m u) : u ≠ .run := by
  cases m with
  | none => rw [show u = .returning from h]; exact fun h => by cases h
  | some d => obtain ⟨v, rfl, _⟩ := h; exact fun h => by cases h
theorem aleave_sound {fn : Func} {R : AE → List Bx → Prop} {F0 : Nat → Prop} {L0 : List Bx} {w0 : World} {e : AEnv} {tmps : Array Value} :
    ∀ (ds : List Df) (ds' : List Deferred) (m : Option D) (u : FrameMode) (F : Nat → Prop) (L : List Bx) (w : World), aleave P fn.results.toList R e ds m L → Ev F0 L0 w0 F L w → AW F L w →
      (∀ i ∈ slots fn.results.toList, Rep F w (e.get i) (tmps.getD i undef)) → DReps F w ds ds' → MRep F w m u →
      Leaves P fn tmps (fun e w' => ∃ a F' L', Ev F0 L0 w0 F' L' w' ∧ AW F' L' w' ∧ ERep F' w' a e ∧ R a L') ds' u w
  | [], ds', m, u, F, L, w, h, ev, aw, hs, hd, hm => by
    have hd : ds' = [] := hd
    subst hd
    cases m with
    | none =>
      have hm : u = .returning := hm
      subst hm
      obtain ⟨l, vs, hl, hr, hk⟩ := aretS_sound aw _ e tmps _ h hs
      exact ⟨_, results_run hl, .ret (atup l), F, L, ev, aw, ⟨_, rfl, atup_ok hr⟩, hk⟩
    | some d =>
      obtain ⟨v, rfl, hr⟩ := hm
      exact ⟨.pan d, F, L, ev, aw, ⟨v, rfl, hr⟩, h⟩
  | .mark :: _, _, _, _, _, _, _, h, _, _, _, _, _ => h.elim
  | .fn g cap args :: ds, ds', m, u, F, L, w, h, ev, aw, hs, hd, hm => by
    obtain ⟨cs, as, s, rfl, h1, h2, h3⟩ := hd
    obtain ⟨hen, hc⟩ := h
    have hi : (invoke (.fn (.func g) (List.toArray cs)) (List.toArray as)).run P w = .ok (.enter g (as ++ cs).toArray) w := by
      have := run_enter hen (as ++ cs).toArray w
      simp only [invoke, List.append_toArray]
      simpa using this
    refine leaves_cons (mrep_run hm) hi ((hc F w _ u aw (h2.append h1) hm).mono ?_)
    rintro e' u' w' ⟨⟨v, rfl⟩, m', F', L', hm', he', aw', hR⟩
    exact aleave_sound ds s m' (settle u') F' L' w' hR (ev.trans he') aw' (fun i hi => (hs i hi).ev he' aw) (h3.keep (he'.keeps aw)) hm'
theorem draws_nil {n : Nat} {A : An} : ∀ (c : Code), DrawsOk P n A c → DrawsOk P n ⟨[], A.p⟩ c
  | .region i ops true, h => h
  | .region i ops false, _ => trivial
  | .seq x y, h => ⟨draws_nil x h.1, draws_nil y h.2⟩
  | .cond _ x y, h => ⟨draws_nil x h.1, draws_nil y h.2⟩
  | .block _ c, h => draws_nil c h
  | .loop c, h => draws_nil c h
  | .skip, _ => trivial
  | .label _, _ => trivial
  | .exit _, _ => trivial
  | .goto _, _ => trivial
  | .ret, _ => trivial
  | .refuse _, _ => trivial
  | .scope _, _ => trivial
  | .rangeFunc .., _ => trivial
theorem aexD_sound {fn : Func} {A : An} {n : Nat} {R : AE → List Bx → Prop} {F0 : Nat → Prop} {L0 : List Bx} {w0 : World} :
    ∀ (c : Code) (ae : AEnv) (L : List Bx) (F : Nat → Prop) (w : World) (a : Act), aexD P A fn.results.toList R c ae L → Ev F0 L0 w0 F L w → AW F L w → AAgree F w n ae a → lt n (dsts c) → chkD A (slots fn.results.toList) c = true → DrawsOk P n A c →
      c.wp P (bodyPostD P fn fun e w' => ∃ a F' L', Ev F0 L0 w0 F' L' w' ∧ AW F' L' w' ∧ ERep F' w' a e ∧ R a L') a w := by
  intro c
  induction c with
  | seq x y ihx ihy =>
    intro ae L F w a h ev aw ha hl hchk hdr
    have hlx : lt n (dsts x) := fun i hi => hl i (by simp [dsts, hi])
    have hly : lt n (dsts y) := fun i hi => hl i (by simp [dsts, hi])
    unfold aexD at h
    unfold chkD at hchk
    refine wp_seq (aex_sound (A := ⟨[], A.p⟩) x ae L F w a _ h aw ha hlx (.inr rfl) (draws_nil x hdr.1) _ ?_ ?_)
    · intro z e1 L1 F1 a1 w1 hne hq he haw ha1 _ _
      cases z with
      | normal =>
        simp only [pcond_eq] at hq
        rw [Bool.cond_eq_ite] at hq hchk
        split at hq
        · rename_i hb
          rw [if_pos hb] at hchk
          have hnd : noDef y = true ∨ A.j = [] := by
            rw [Bool.or_eq_true] at hb
            refine hb.imp id (fun h => ?_)
            unfold nulB at h
            split at h
            · assumption
            · cases h
          refine aex_sound y e1 L1 F1 w1 a1 _ hq haw ha1 hly hnd hdr.2 _ ?_ ?_
          · intro z2 e2 L2 F2 a2 w2 hne2 hq2 he2 haw2 ha2 _ _
            cases z2 with
            | normal => exact aleave_sound _ _ none _ F2 L2 w2 hq2 ((ev.trans he).trans he2) haw2 (fun i _ => ha2.tmp i) ha2.dfr rfl
            | ret => exact aleave_sound _ _ none _ F2 L2 w2 hq2 ((ev.trans he).trans he2) haw2 (fun i _ => ha2.tmp i) ha2.dfr rfl
            | panic d => cases hne2
            | exit i => exact hq2.elim
          · intro d e2 L2 F2 a2 w2 v hq2 he2 haw2 hr2 hd2 hs2
            refine aleave_sound _ _ (some d) _ F2 L2 w2 hq2 ((ev.trans he).trans he2) haw2 (fun i hi => ?_) hd2 ⟨v, rfl, hr2⟩
            rw [hs2 i (apartL_ok hchk i hi)]
            exact (ha1.tmp i).ev he2 haw
        · rename_i hb
          rw [if_neg hb] at hchk
          exact ihy e1 L1 F1 w1 a1 hq (ev.trans he) haw ha1 hly hchk hdr.2
      | panic d => cases hne
      | exit i => exact hq.elim
      | ret => exact aleave_sound _ _ none _ F1 L1 w1 hq (ev.trans he) haw (fun i _ => ha1.tmp i) ha1.dfr rfl
    · intro d e2 L2 F2 a2 w2 v hq2 he2 haw2 hr2 hd2 _
      exact hq2.elim
  | _ => intro ae L F w a h; exact h.elim
/-- A FUNCTION's CALL that defers something -/
theorem aspec_ofD {f : FuncId} {fn : Func} {A : An} {args : List D} {L : List Bx} {R : AE → List Bx → Prop} (n : Nat) (hm : P.follows .mixedOrders = true)
    (hf : P.funcs[f]? = some fn) (hb : fn.body = some (bodyOf fn)) (hname : fn.name ≠ "runtime.NumGoroutine") (hn : args.length = n)
    (hchk : ((ltB (n + (fn.ntmps - n)) (dsts (bodyOf fn)) && chkD A (slots fn.results.toList) (bodyOf fn)) && drawsB P A (bodyOf fn)) = true)
    (h : aexD P A fn.results.toList R (bodyOf fn) (aenv0 args) L) : ASpec P f args L R := by
  subst hn
  simp only [Bool.and_eq_true] at hchk
  intro F w vs aw hr
  refine .inl ⟨⟨fn, hf, by simp [hb], hname⟩, calls_of_wp_defers hf hb ?_⟩
  have hlen := hr.length
  have ha : AAgree F w (args.length + (fn.ntmps - args.length)) (aenv0 args) { tmps := vs.toArray ++ Array.replicate (fn.ntmps - vs.toArray.size) undef, defers := [] } := by
    refine ⟨by simp [hlen], fun i => ?_, rfl⟩
    have := reps_getD hr i
    have e : (vs.toArray ++ Array.replicate (fn.ntmps - vs.toArray.size) undef).getD i undef = vs.getD i undef := by
      simp only [Array.getD_eq_getD_getElem?, List.getD_eq_getElem?_getD, Array.getElem?_append]
      split
      · simp
      · rename_i hi
        rw [Array.getElem?_replicate, List.getElem?_eq_none (by simpa using hi)]
        split <;> rfl
    simp only
    rw [e]
    exact this
  exact aexD_sound _ _ L F w _ h (Ev.refl ..) aw ha (ltB_spec _ hchk.1.1) hchk.1.2 (drawsB_ok hm _ hchk.2 (ltB_spec _ hchk.1.1))
theorem ADef.mono {g : FuncId} {args : List D} {m : Option D} {R R' : Option D → List Bx → Prop} (h : ADef P g args m L R) (hr : ∀ m' L', R m' L' → R' m' L') : ADef P g args m L R' :=
  ⟨h.1, fun F w vs u aw hv hm => (h.2 F w vs u aw hv hm).mono fun e u' w' ⟨h1, m', F', L', h2, h3, h4, h5⟩ => ⟨h1, m', F', L', h2, h3, h4, hr _ _ h5⟩⟩
/-! ### what recovers -/
def isRec (o : Oper) : Bool :=
  match o.guard, o.op with
  | none, .call c => (match c.callee with | .builtin .recover => true | _ => false)
  | _, _ => false
/-- the rest of the region that recovers: nothing but names for it -/
def arecL : List Oper → AEnv → (AEnv → Prop) → Prop
  | [], e, k => k e
  | o :: r, e, k => match o.guard, o.op with
    | none, .assign x => arecL r (e.put o.dst (e.ev x)) k
    | none, .move x => arecL r (e.put o.dst (e.ev x)) k
    | _, _ => False
def recD : Option D → D
  | some d => d
  | none => .val .nilIface
def apostR (R : Option D → List Bx → Prop) : AX → AEnv → List Bx → Prop
  | .normal, e, L => (match e.dfr with | [] => R none L | _ => False)
  | .ret, e, L => (match e.dfr with | [] => R none L | _ => False)
  | _, _, _ => False
def aexR (P : Program) (A : An) (R : Option D → List Bx → Prop) (m : Option D) (c : Code) (e : AEnv) (L : List Bx) : Prop :=
  match c with
  | .seq (.region _ ops false) b => (match ops.toList with
    | o :: r => pcond (isRec o) (arecL r (e.put o.dst (recD m)) fun e1 => aex P A b e1 L (apostR R)) False
    | [] => False)
  | _ => False
theorem wpOpsS_rest {ops : Array Oper} {n : Nat} {Q : Exit → Act → List Frame → World → Prop} {cs : List Frame} {k : AEnv → Prop} :
    ∀ (r : List Oper) (j : Nat) (e : AEnv) (a : Act), (∀ i, r[i]? = ops[j + i]?) → arecL r e k → AAgree F w n e a → lt n (dstsO r) → (∀ e' a', k e' → AAgree F w n e' a' → Q .normal a' cs w) → wpOpsS P ops Q (List.range' j r.length) a cs w
  | [], j, e, a, _, h, ha, _, hk => hk _ _ h ha
  | o :: r, j, e, a, hi, h, ha, hl, hk => by
    have ho : ops[j]? = some o := by simpa using (hi 0).symm
    have hdo : ∀ x, o.dst = some x → x < n := fun x hx => hl x (dstsO_mem hx)
    rw [List.length_cons, List.range'_succ]
    unfold wpOpsS
    simp only [ho]
    have hi' : ∀ i, r[i]? = ops[j + 1 + i]? := fun i => by
      have := hi (i + 1)
      rw [List.getElem?_cons_succ] at this
      rw [this]; congr 1; omega
    unfold arecL at h
    split at h
    · rename_i x hg hop
      rw [if_pos (by simp [Region.wanted, hg])]
      have hrun : (execOp a.eval o).run P w = .ok (.value (a.eval x)) w := by unfold execOp; simp [hop]
      rw [hrun]
      exact wpOpsS_rest r (j + 1) _ _ hi' h (ha.put hdo (ha.ev x)) (fun x hx => hl x (dstsO_tail hx)) hk
    · rename_i x hg hop
      rw [if_pos (by simp [Region.wanted, hg])]
      have hrun : (execOp a.eval o).run P w = .ok (.value (a.eval x)) w := by unfold execOp; simp [hop]
      rw [hrun]
      exact wpOpsS_rest r (j + 1) _ _ hi' h (ha.put hdo (ha.ev x)) (fun x hx => hl x (dstsO_tail hx)) hk
    · exact h.elim
theorem adef_of {f : FuncId} {fn : Func} {A : An} {args : List D} {m : Option D} {L : List Bx} {R : Option D → List Bx → Prop} (n : Nat) (hm : P.follows .mixedOrders = true)
    (hf : P.funcs[f]? = some fn) (hb : fn.body = some (bodyOf fn)) (hname : fn.name ≠ "runtime.NumGoroutine") (hn : args.length = n) (hres : fn.results = #[])
    (hchk : ((ltB (n + (fn.ntmps - n)) (dsts (bodyOf fn)) && noDef (bodyOf fn)) && drawsB P A (bodyOf fn)) = true)
    (h : aexR P A R m (bodyOf fn) (aenv0 args) L) : ADef P f args m L R := by
  subst hn
  simp only [Bool.and_eq_true] at hchk
  refine ⟨⟨fn, hf, by simp [hb], hname⟩, fun F w vs u aw hr hmr => callsD_of_wpS hf hb fun c₀ cs hu => ?_⟩
  have hlen := hr.length
  have ha : AAgree F w (args.length + (fn.ntmps - args.length)) (aenv0 args) { tmps := vs.toArray ++ Array.replicate (fn.ntmps - vs.toArray.size) undef, defers := [] } := by
    refine ⟨by simp [hlen], fun i => ?_, rfl⟩
    have := reps_getD hr i
    have e : (vs.toArray ++ Array.replicate (fn.ntmps - vs.toArray.size) undef).getD i undef = vs.getD i undef := by
      simp only [Array.getD_eq_getD_getElem?, List.getD_eq_getElem?_getD, Array.getElem?_append]
      split
      · simp
      · rename_i hi
        rw [Array.getElem?_replicate, List.getElem?_eq_none (by simpa using hi)]
        split <;> rfl
    simp only
    rw [e]
    exact this
  generalize ({ tmps := vs.toArray ++ Array.replicate (fn.ntmps - vs.toArray.size) undef, defers := [] } : Act) = a0 at ha
  have hlt := ltB_spec _ hchk.1.1
  have hdr := drawsB_ok hm _ hchk.2 hlt
  have hnd := hchk.1.2
  revert h hlt hdr hnd
  clear hchk hb
  generalize bodyOf fn = c
  intro h hlt hdr hnd
  unfold aexR at h
  split at h
  case h_2 => exact h.elim
  rename_i i ops b
  split at h
  case h_2 => exact h.elim
  rename_i o r hops
  simp only [pcond_eq] at h
  rw [Bool.cond_eq_ite] at h
  split at h
  case isFalse => exact h.elim
  rename_i hrec
  have hsize : ops.size = r.length + 1 := by rw [← Array.length_toList, hops]; rfl
  have ho : ops[0]? = some o := by rw [← Array.getElem?_toList, hops]; rfl
  have hrest : ∀ i, r[i]? = ops[1 + i]? := fun i => by rw [← Array.getElem?_toList, hops, Nat.add_comm, List.getElem?_cons_succ]
  have hlo : lt (args.length + (fn.ntmps - args.length)) (dstsO (o :: r)) := fun x hx => hlt x (by simp only [dsts, List.mem_append]; left; rw [hops]; exact hx)
  have hlb : lt (args.length + (fn.ntmps - args.length)) (dsts b) := fun x hx => hlt x (by simp only [dsts, List.mem_append]; exact .inr hx)
  have hdo : ∀ x, o.dst = some x → x < args.length + (fn.ntmps - args.length) := fun x hx => hlo x (dstsO_mem hx)
  have hnb : noDef b = true := by simp only [noDef, Bool.and_eq_true] at hnd; exact hnd.2
  have hrun : ∀ a : Act, (execOp a.eval o).run P w = .ok .recover w ∧ o.guard = none := by
    intro a
    unfold isRec at hrec
    split at hrec
    · rename_i c hg hop
      split at hrec
      · rename_i hc
        refine ⟨?_, hg⟩
        unfold execOp
        simp [hop, resolve, hc, invoke, builtin]
      · cases hrec
    · cases hrec
  -- behind what recovers
  have fin : ∀ (u' : FrameMode) (x : D) (v : Value), settle u' = .returning → Rep F w x v → x = recD m →
      wpOpsS P ops (Exit.thenS (b.wpS P (bodyPostS P fn c₀ cs fun e u' w' => (∃ v, e = .returned v) ∧ ∃ m' F' L', MRep F' w' m' (settle u') ∧ Ev F L w F' L' w' ∧ AW F' L' w' ∧ R m' L')) (bodyPostS P fn c₀ cs fun e u' w' => (∃ v, e = .returned v) ∧ ∃ m' F' L', MRep F' w' m' (settle u') ∧ Ev F L w F' L' w' ∧ AW F' L' w' ∧ R m' L')) (List.range' 1 r.length) (a0.put o.dst v) ({ c₀ with mode := u' } :: cs) w := by
    intro u' x v hu' hxv hx
    subst hx
    refine wpOpsS_rest (F := F) r 1 _ _ hrest h (ha.put hdo hxv) (fun x hx => hlo x (dstsO_tail hx)) ?_
    intro e1 a1 hk ha1
    refine wpS_of_wp (aex_sound b e1 L F w a1 _ hk aw ha1 hlb (.inl hnb) hdr.2 _ ?_ ?_)
    · intro z e2 L2 F2 a2 w2 hne hq he haw ha2 _ _
      have hsp : (match e2.dfr with | [] => R none L2 | _ => False) → e2.dfr = [] ∧ R none L2 := by
        intro hh
        split at hh
        · rename_i hd; exact ⟨hd, hh⟩
        · exact hh.elim
      have hfin : e2.dfr = [] ∧ R none L2 → a2.defers = [] ∧ ∃ u'', ({ c₀ with mode := u' } :: cs : List Frame) = { c₀ with mode := u'' } :: cs ∧ ∃ v, (results fn a2.tmps).run P w2 = .ok v w2 ∧ (∃ v', Ending.returned v = .returned v') ∧ ∃ m' F' L', MRep F' w2 m' (settle u'') ∧ Ev F L w F' L' w2 ∧ AW F' L' w2 ∧ R m' L' := by
        rintro ⟨hd, hR⟩
        have hdd := ha2.dfr
        rw [hd] at hdd
        refine ⟨hdd, u', rfl, .tuple #[], ?_, ⟨_, rfl⟩, none, F2, L2, hu', he, haw, hR⟩
        have := results_run (P := P) (fn := fn) (tmps := a2.tmps) (w := w2) (vs := []) (by rw [hres]; simp)
        simpa using this
      cases z with
      | normal => exact hfin (hsp hq)
      | ret => exact hfin (hsp hq)
      | panic d => cases hne
      | exit i => exact hq.elim
    · intro d e2 L2 F2 a2 w2 v hq2 he2 haw2 hr2 hd2 _
      exact hq2.elim
  refine wpS_seq (wpS_region ?_)
  rw [hsize, List.range_eq_range', List.range'_succ]
  unfold wpOpsS
  simp only [ho]
  rw [if_pos (by simp [Region.wanted, (hrun a0).2]), (hrun a0).1]
  simp only
  cases m with
  | none =>
    have hmr : u = .returning := hmr
    subst hmr
    have hrd : recoverD (c₀ :: cs) = none := by simp [recoverD, hu]
    rw [hrd]
    simp only
    have := fin .returning (.val .nilIface) .nilIface rfl (rep_val trivial) rfl
    have hc : ({ c₀ with mode := .returning } : Frame) = c₀ := by rw [← hu]
    rw [hc] at this
    exact this
  | some d =>
    obtain ⟨v, rfl, hrv⟩ := hmr
    have hrd : recoverD (c₀ :: cs) = some (v, { c₀ with mode := .panicking [{ v := v, recovered := true }] } :: cs) := by simp [recoverD, hu]
    rw [hrd]
    simp only
    exact fin (.panicking [{ v := v, recovered := true }]) d v rfl hrv rfl
theorem a_mkM {k : D → List Bx → Prop} (h : ∀ b, k (.val (.map (some b))) (⟨b, [], .map []⟩ :: L)) : amkM L k := h
theorem a_end {R : AE → List Bx → Prop} {X : Prop} (h : X) : aend R none L X := h
theorem a_negw {a : IntKind} {n : Int} {k : D → Prop} (h : k (.val (.int a (a.wrap (0 - n))))) : aneg (.val (.int a n)) k := h
theorem a_eqIh {t : Nat} {d : D} {k : D → Prop} (h : k (.b false)) : aeqI .eql (.ifc t d) (.val .nilIface) k := h
theorem a_neIh {t : Nat} {d : D} {k : D → Prop} (h : k (.b true)) : aeqI .neq (.ifc t d) (.val .nilIface) k := h
theorem a_tasT {t : Nat} {z d : D} {k : D → Prop} (h : k (.tuple [d, .b true])) : atas t z (.ifc t d) true k := by
  unfold atas
  show (bif Nat.beq t t then _ else _)
  rw [show Nat.beq t t = true by simp]
  exact h
theorem a_st0 {b o : Nat} {l : List D} {L : List Bx} {k : List Bx → Prop} (i : Nat) (hi : L[i]? = some (Bx.mk b l .box)) (ho : o ≤ l.length) (h : k L) : ast0 (.p b o) (.agg []) L k := ⟨i, l, hi, ho, h⟩
end
end Go.V
/- A function with a range over a function. -/
set_option linter.unusedVariables false
namespace Go.V
open Go
section
variable {P : Program} {F F' : Nat → Prop} {w w' : World} {L L' : List Bx}
end
end Go.V
/- A loop over a function that hands a row's elements on, last one first. -/
set_option linter.unusedVariables false
namespace Go.V
open Go
def RF (F : Fence) : Prop := F = Fence.wide ∨ ∃ l, F = Fence.wide.inRound l
section
variable {P : Program} {n m : Nat} {F F' : Nat → Prop} {w w' : World} {L L' : List Bx} {ae : AEnv} {a : Act} {o : Oper} {F0 : Fence}
theorem RF.fn (h : RF F0) (f : FuncId) : F0.fn f := by rcases h with rfl | ⟨l, rfl⟩ <;> trivial
theorem RF.depth (h : RF F0) : F0.depth = none := by rcases h with rfl | ⟨l, rfl⟩ <;> rfl
theorem RF.calls (h : RF F0) {g : FuncId} {args : Array Value} {R : Ending → World → Prop} (k : Nat) (hc : Calls P g args w R) : CallsIn F0 k P g args w R := by
  rcases h with rfl | ⟨l, rfl⟩
  · exact callsIn_wide.2 hc
  · exact CallsIn.inRound l (callsIn_wide.2 hc)
end
end Go.V
namespace Go.V
open Go
end Go.V
namespace Go.V
open Go
/-- a box that a call may turn -/
theorem Gl.cel {ds : List D} {L : List Bx} (i : Nat) {b : Nat} {l : List D} (hi : L[i]? = some (Bx.mk b l .box)) : Gl ds L ds (L.set i ⟨b, l, .cel⟩) := by
  intro F w vs a hr
  obtain ⟨h1, h2⟩ := a.swap (w' := w) (y := ⟨b, l, .cel⟩) hi (Nat.le_refl _) ⟨rfl, rfl, rfl, Nat.le_refl _⟩ (fun _ _ _ => rfl) (.inl rfl) (by
    obtain ⟨c, t, vs, q1, q2, q3, _⟩ := (a.at hi).row fun es h => (by cases h)
    exact ⟨.inr ⟨c, t, vs, q1, q2, q3, trivial⟩⟩)
  exact ⟨F, h2, h1, hr⟩
end Go.V
