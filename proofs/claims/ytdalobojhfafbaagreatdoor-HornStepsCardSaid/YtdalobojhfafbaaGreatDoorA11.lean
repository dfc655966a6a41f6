/- Calls that are deferred; what recovers. -/
import Derived.Test.YtdalobojhfafbaaGreatDoorA8
import Derived.Recover
import Derived.RangeFuncLeaves
import Derived.RangeFuncWrites
import Derived.RangeFuncNested
set_option linter.unusedVariables false
namespace Go.V
open Go
def MRep (F : Nat → Prop) (w : World) : Option D → FrameMode → Prop
  | none, u => u = .returning
  | some d, u => ∃ v, u = .panicking [{ v := v, recovered := false }] ∧ Rep F w d v
def ADef (P : Program) (g : FuncId) (args : List D) (m : Option D) (L : List Bx) (R : Option D → List Bx → Prop) : Prop :=
  Enters P g ∧ ∀ F w vs u, AW F L w → Reps F w args vs → MRep F w m u → CallsD P g vs.toArray u w fun e u' w' => (∃ v, e = .returned v) ∧ ∃ m' F' L', MRep F' w' m' (settle u') ∧ Ev F L w F' L' w' ∧ AW F' L' w' ∧ R m' L'
def aend (R : AE → List Bx → Prop) (m : Option D) (L : List Bx) (X : Prop) : Prop :=
  match m with
  | none => X
  | some d => R (.pan d) L
def aleave (P : Program) (rs : List ResultVar) (R : AE → List Bx → Prop) (e : AEnv) : List Df → Option D → List Bx → Prop
  | [] => fun m L => aend R m L (aretG P rs e L fun l => R (.ret (atup l)) L)
  | .mark :: _ => fun _ _ => False
  | .fn g cap args :: ds => fun m L => ADef P g (args ++ cap) m L (aleave P rs R e ds)
def apostD (P : Program) (rs : List ResultVar) (R : AE → List Bx → Prop) (e1 : AEnv) : AX → AEnv → List Bx → Prop
  | .normal, e, L => aleave P rs R e e.dfr none L
  | .ret, e, L => aleave P rs R e e.dfr none L
  | .panic c, e, L => aleave P rs R e1 e.dfr (some c) L
  | _, _, _ => False
def aexD (P : Program) (A : An) (rs : List ResultVar) (R : AE → List Bx → Prop) : Code → AEnv → List Bx → Prop
  | .seq a b, e, L => aex P ⟨[], A.p⟩ a e L fun x e1 L1 => match x with
    | .normal => pcond (noDef b || nulB A.j) (aex P A b e1 L1 (apostD P rs R e1)) (aexD P A rs R b e1 L1)
    | .ret => aleave P rs R e1 e1.dfr none L1
    | _ => False
  | _, _, _ => False
def apnF (d : D) : Prop := match d with | .ifc _ _ => False | _ => False
def slots : List ResultVar → List Nat
  | [] => []
  | .tmp t :: r => t :: slots r
  | .cell a _ :: r => a :: slots r
def apartL : List Nat → List Nat → Bool
  | [], _ => true
  | a :: l, m => bif mem a m then false else apartL l m
def chkD (A : An) (sl : List Nat) : Code → Bool
  | .seq _ b => bif noDef b || nulB A.j then apartL sl (dsts b) else chkD A sl b
  | _ => false
theorem apartL_ok : ∀ {l m : List Nat}, apartL l m = true → ∀ i ∈ l, i ∉ m
  | a :: l, m, h, i, hi, him => by
    unfold apartL at h
    rw [Bool.cond_eq_ite] at h
    split at h
    · cases h
    · rename_i hm
      rcases List.mem_cons.1 hi with rfl | hi
      · exact hm ((mem_iff m i).2 him)
      · exact apartL_ok h i hi him
section
variable {P : Program} {F F' : Nat → Prop} {w w' : World} {L L' : List Bx}
theorem aretG_congr {e e' : AEnv} : ∀ (rs : List ResultVar) (k : List D → Prop), (∀ i ∈ slots rs, e.get i = e'.get i) → aretG P rs e L k → aretG P rs e' L k
  | [], k, _, h => h
  | .tmp t :: rs, k, he, h => by
    simp only [aretG] at h ⊢
    rw [← he t (by simp [slots])]
    exact aretG_congr rs _ (fun i hi => he i (by simp [slots, hi])) h
  | .cell a t :: rs, k, he, h => by
    simp only [aretG] at h ⊢
    rw [← he a (by simp [slots])]
    have m1 : ∀ (n : Nat) (p : D) (X Y : D → Prop), (∀ d, X d → Y d) → aldN n p L X → aldN n p L Y := by
      intro n p X Y hXY hh
      unfold aldN at hh ⊢
      split at hh
      · obtain ⟨i, l, kd, m, h1, h2, h3, h4⟩ := hh; exact ⟨i, l, kd, m, h1, h2, h3, hXY _ h4⟩
      · obtain ⟨m, h1, h2, h3⟩ := hh; exact ⟨m, h1, h2, hXY _ h3⟩
      · exact hh.elim
    have m2 : ∀ (p : D) (X Y : D → Prop), (∀ d, X d → Y d) → ald1 p L X → ald1 p L Y := by
      intro p X Y hXY hh
      unfold ald1 at hh ⊢
      split at hh
      · obtain ⟨i, l, kd, d, h1, h2, h3⟩ := hh; exact ⟨i, l, kd, d, h1, h2, hXY _ h3⟩
      · exact hXY _ hh
      · exact hh.elim
    split at h
    · rename_i d hu
      rw [pcond_eq, Bool.cond_eq_ite] at h ⊢
      split at h
      · rename_i hg
        rw [if_pos hg]
        exact m1 _ _ _ _ (fun d h => aretG_congr rs _ (fun i hi => he i (by simp [slots, hi])) h) h
      · rename_i hg
        rw [if_neg hg]
        exact m2 _ _ _ (fun d h => aretG_congr rs _ (fun i hi => he i (by simp [slots, hi])) h) h
    · exact h.elim
theorem aretS_sound (aw : AW F L w) (rs : List ResultVar) (e : AEnv) (tmps : Array Value) (k : List D → Prop) (h : aretG P rs e L k) (hs : ∀ i ∈ slots rs, Rep F w (e.get i) (tmps.getD i undef)) :
    ∃ l vs, (rs.mapM (resF tmps)).run P w = .ok vs w ∧ Reps F w l vs ∧ k l := by
  have ha : AAgree F w tmps.size ⟨fun i => bif mem i (slots rs) then e.get i else .top, []⟩ { tmps := tmps, defers := [] } := by
    refine ⟨rfl, fun i => ?_, rfl⟩
    show Rep F w (bif mem i (slots rs) then e.get i else .top) _
    rw [Bool.cond_eq_ite]
    split
    · rename_i hm; exact hs i ((mem_iff _ _).1 hm)
    · exact rep_top
  exact aretG_sound aw rs _ _ k (aretG_congr rs k (fun i hi => by
    show e.get i = (bif mem i (slots rs) then e.get i else .top)
    rw [(mem_iff _ _).2 hi]; rfl) h) ha
theorem results_run {fn : Func} {tmps : Array Value} {vs : List Value} (hl : (fn.results.toList.mapM (resF tmps)).run P w = .ok vs w) :
    (results fn tmps).run P w = .ok (if h : vs.toArray.size = 1 then vs.toArray[0] else .tuple vs.toArray) w := by
  have hm : (fn.results.mapM (resF tmps)).run P w = .ok vs.toArray w := by
    generalize fn.results = rs at hl
    obtain ⟨rs⟩ := rs
    simp only [List.mapM_toArray, Sem.run_map, hl]
    rfl
  rw [results_eq]
  simp only [Sem.run_bind]
  rw [hm]
  simp only [Result.andThen_ok, Sem.run_pure]
theorem mrep_run {m : Option D} {u : FrameMode} (h : MRep F w m u) : u ≠ .run := by
  cases m with
  | none => rw [show u = .returning from h]; exact fun h => by cases h
  | some d => obtain ⟨v, rfl, _⟩ := h; exact fun h => by cases h
theorem aleave_sound {fn : Func} {R : AE → List Bx → Prop} {F0 : Nat → Prop} {L0 : List Bx} {w0 : World} {e : AEnv} {tmps : Array Value} :
    ∀ (ds : List Df) (ds' : List Deferred) (m : Option D) (u : FrameMode) (F : Nat → Prop) (L : List Bx) (w : World), aleave P fn.results.toList R e ds m L → Ev F0 L0 w0 F L w → AW F L w →
      (∀ i ∈ slots fn.results.toList, Rep F w (e.get i) (tmps.getD i undef)) → DReps F w ds ds' → MRep F w m u →
      Leaves P fn tmps (fun e w' => ∃ a F' L', Ev F0 L0 w0 F' L' w' ∧ AW F' L' w' ∧ ERep F' w' a e ∧ R a L') ds' u w
  | [], ds', m, u, F, L, w, h, ev, aw, hs, hd, hm => by
    have hd : ds' = [] := hd
    subst hd
    cases m with
    | none =>
      have hm : u = .returning := hm
      subst hm
      obtain ⟨l, vs, hl, hr, hk⟩ := aretS_sound aw _ e tmps _ h hs
      exact ⟨_, results_run hl, .ret (atup l), F, L, ev, aw, ⟨_, rfl, atup_ok hr⟩, hk⟩
    | some d =>
      obtain ⟨v, rfl, hr⟩ := hm
      exact ⟨.pan d, F, L, ev, aw, ⟨v, rfl, hr⟩, h⟩
  | .mark :: _, _, _, _, _, _, _, h, _, _, _, _, _ => h.elim
  | .fn g cap args :: ds, ds', m, u, F, L, w, h, ev, aw, hs, hd, hm => by
    obtain ⟨cs, as, s, rfl, h1, h2, h3⟩ := hd
    obtain ⟨hen, hc⟩ := h
    have hi : (invoke (.fn (.func g) (List.toArray cs)) (List.toArray as)).run P w = .ok (.enter g (as ++ cs).toArray) w := by
      have := run_enter hen (as ++ cs).toArray w
      simp only [invoke, List.append_toArray]
      simpa using this
    refine leaves_cons (mrep_run hm) hi ((hc F w _ u aw (h2.append h1) hm).mono ?_)
    rintro e' u' w' ⟨⟨v, rfl⟩, m', F', L', hm', he', aw', hR⟩
    exact aleave_sound ds s m' (settle u') F' L' w' hR (ev.trans he') aw' (fun i hi => (hs i hi).ev he' aw) (h3.keep (he'.keeps aw)) hm'
theorem draws_nil {n : Nat} {A : An} : ∀ (c : Code), DrawsOk P n A c → DrawsOk P n ⟨[], A.p⟩ c
  | .region i ops true, h => h
  | .region i ops false, _ => trivial
  | .seq x y, h => ⟨draws_nil x h.1, draws_nil y h.2⟩
  | .cond _ x y, h => ⟨draws_nil x h.1, draws_nil y h.2⟩
  | .block _ c, h => draws_nil c h
  | .loop c, h => draws_nil c h
  | .skip, _ => trivial
  | .label _, _ => trivial
  | .exit _, _ => trivial
  | .goto _, _ => trivial
  | .ret, _ => trivial
  | .refuse _, _ => trivial
  | .scope _, _ => trivial
  | .rangeFunc .., _ => trivial
theorem aexD_sound {fn : Func} {A : An} {n : Nat} {R : AE → List Bx → Prop} {F0 : Nat → Prop} {L0 : List Bx} {w0 : World} :
    ∀ (c : Code) (ae : AEnv) (L : List Bx) (F : Nat → Prop) (w : World) (a : Act), aexD P A fn.results.toList R c ae L → Ev F0 L0 w0 F L w → AW F L w → AAgree F w n ae a → lt n (dsts c) → chkD A (slots fn.results.toList) c = true → DrawsOk P n A c →
      c.wp P (bodyPostD P fn fun e w' => ∃ a F' L', Ev F0 L0 w0 F' L' w' ∧ AW F' L' w' ∧ ERep F' w' a e ∧ R a L') a w := by
  intro c
  induction c with
  | seq x y ihx ihy =>
    intro ae L F w a h ev aw ha hl hchk hdr
    have hlx : lt n (dsts x) := fun i hi => hl i (by simp [dsts, hi])
    have hly : lt n (dsts y) := fun i hi => hl i (by simp [dsts, hi])
    unfold aexD at h
    unfold chkD at hchk
    refine wp_seq (aex_sound (A := ⟨[], A.p⟩) x ae L F w a _ h aw ha hlx (.inr rfl) (draws_nil x hdr.1) _ ?_ ?_)
    · intro z e1 L1 F1 a1 w1 hne hq he haw ha1 _ _
      cases z with
      | normal =>
        simp only [pcond_eq] at hq
        rw [Bool.cond_eq_ite] at hq hchk
        split at hq
        · rename_i hb
          rw [if_pos hb] at hchk
          have hnd : noDef y = true ∨ A.j = [] := by
            rw [Bool.or_eq_true] at hb
            refine hb.imp id (fun h => ?_)
            unfold nulB at h
            split at h
            · assumption
            · cases h
          refine aex_sound y e1 L1 F1 w1 a1 _ hq haw ha1 hly hnd hdr.2 _ ?_ ?_
          · intro z2 e2 L2 F2 a2 w2 hne2 hq2 he2 haw2 ha2 _ _
            cases z2 with
            | normal => exact aleave_sound _ _ none _ F2 L2 w2 hq2 ((ev.trans he).trans he2) haw2 (fun i _ => ha2.tmp i) ha2.dfr rfl
            | ret => exact aleave_sound _ _ none _ F2 L2 w2 hq2 ((ev.trans he).trans he2) haw2 (fun i _ => ha2.tmp i) ha2.dfr rfl
            | panic d => cases hne2
            | exit i => exact hq2.elim
          · intro d e2 L2 F2 a2 w2 v hq2 he2 haw2 hr2 hd2 hs2
            refine aleave_sound _ _ (some d) _ F2 L2 w2 hq2 ((ev.trans he).trans he2) haw2 (fun i hi => ?_) hd2 ⟨v, rfl, hr2⟩
            rw [hs2 i (apartL_ok hchk i hi)]
            exact (ha1.tmp i).ev he2 haw
        · rename_i hb
          rw [if_neg hb] at hchk
          exact ihy e1 L1 F1 w1 a1 hq (ev.trans he) haw ha1 hly hchk hdr.2
      | panic d => cases hne
      | exit i => exact hq.elim
      | ret => exact aleave_sound _ _ none _ F1 L1 w1 hq (ev.trans he) haw (fun i _ => ha1.tmp i) ha1.dfr rfl
    · intro d e2 L2 F2 a2 w2 v hq2 he2 haw2 hr2 hd2 _
      exact hq2.elim
  | _ => intro ae L F w a h; exact h.elim
theorem aspec_ofD {f : FuncId} {fn : Func} {A : An} {args : List D} {L : List Bx} {R : AE → List Bx → Prop} (n : Nat) (hm : P.follows .mixedOrders = true)
    (hf : P.funcs[f]? = some fn) (hb : fn.body = some (bodyOf fn)) (hname : fn.name ≠ "runtime.NumGoroutine") (hn : args.length = n)
    (hchk : ((ltB (n + (fn.ntmps - n)) (dsts (bodyOf fn)) && chkD A (slots fn.results.toList) (bodyOf fn)) && drawsB P A (bodyOf fn)) = true)
    (h : aexD P A fn.results.toList R (bodyOf fn) (aenv0 args) L) : ASpec P f args L R := by
  subst hn
  simp only [Bool.and_eq_true] at hchk
  intro F w vs aw hr
  refine .inl ⟨⟨fn, hf, by simp [hb], hname⟩, calls_of_wp_defers hf hb ?_⟩
  have hlen := hr.length
  have ha : AAgree F w (args.length + (fn.ntmps - args.length)) (aenv0 args) { tmps := vs.toArray ++ Array.replicate (fn.ntmps - vs.toArray.size) undef, defers := [] } := by
    refine ⟨by simp [hlen], fun i => ?_, rfl⟩
    have := reps_getD hr i
    have e : (vs.toArray ++ Array.replicate (fn.ntmps - vs.toArray.size) undef).getD i undef = vs.getD i undef := by
      simp only [Array.getD_eq_getD_getElem?, List.getD_eq_getElem?_getD, Array.getElem?_append]
      split
      · simp
      · rename_i hi
        rw [Array.getElem?_replicate, List.getElem?_eq_none (by simpa using hi)]
        split <;> rfl
    simp only
    rw [e]
    exact this
  exact aexD_sound _ _ L F w _ h (Ev.refl ..) aw ha (ltB_spec _ hchk.1.1) hchk.1.2 (drawsB_ok hm _ hchk.2 (ltB_spec _ hchk.1.1))
theorem ADef.mono {g : FuncId} {args : List D} {m : Option D} {R R' : Option D → List Bx → Prop} (h : ADef P g args m L R) (hr : ∀ m' L', R m' L' → R' m' L') : ADef P g args m L R' :=
  ⟨h.1, fun F w vs u aw hv hm => (h.2 F w vs u aw hv hm).mono fun e u' w' ⟨h1, m', F', L', h2, h3, h4, h5⟩ => ⟨h1, m', F', L', h2, h3, h4, hr _ _ h5⟩⟩
def isRec (o : Oper) : Bool :=
  match o.guard, o.op with
  | none, .call c => (match c.callee with | .builtin .recover => true | _ => false)
  | _, _ => false
def arecL : List Oper → AEnv → (AEnv → Prop) → Prop
  | [], e, k => k e
  | o :: r, e, k => match o.guard, o.op with
    | none, .assign x => arecL r (e.put o.dst (e.ev x)) k
    | none, .move x => arecL r (e.put o.dst (e.ev x)) k
    | _, _ => False
def recD : Option D → D
  | some d => d
  | none => .val .nilIface
def apostR (R : Option D → List Bx → Prop) : AX → AEnv → List Bx → Prop
  | .normal, e, L => (match e.dfr with | [] => R none L | _ => False)
  | .ret, e, L => (match e.dfr with | [] => R none L | _ => False)
  | _, _, _ => False
def aexR (P : Program) (A : An) (R : Option D → List Bx → Prop) (m : Option D) (c : Code) (e : AEnv) (L : List Bx) : Prop :=
  match c with
  | .seq (.region _ ops false) b => (match ops.toList with
    | o :: r => pcond (isRec o) (arecL r (e.put o.dst (recD m)) fun e1 => aex P A b e1 L (apostR R)) False
    | [] => False)
  | _ => False
theorem wpOpsS_rest {ops : Array Oper} {n : Nat} {Q : Exit → Act → List Frame → World → Prop} {cs : List Frame} {k : AEnv → Prop} :
    ∀ (r : List Oper) (j : Nat) (e : AEnv) (a : Act), (∀ i, r[i]? = ops[j + i]?) → arecL r e k → AAgree F w n e a → lt n (dstsO r) → (∀ e' a', k e' → AAgree F w n e' a' → Q .normal a' cs w) → wpOpsS P ops Q (List.range' j r.length) a cs w
  | [], j, e, a, _, h, ha, _, hk => hk _ _ h ha
  | o :: r, j, e, a, hi, h, ha, hl, hk => by
    have ho : ops[j]? = some o := by simpa using (hi 0).symm
    have hdo : ∀ x, o.dst = some x → x < n := fun x hx => hl x (dstsO_mem hx)
    rw [List.length_cons, List.range'_succ]
    unfold wpOpsS
    simp only [ho]
    have hi' : ∀ i, r[i]? = ops[j + 1 + i]? := fun i => by
      have := hi (i + 1)
      rw [List.getElem?_cons_succ] at this
      rw [this]; congr 1; omega
    unfold arecL at h
    split at h
    · rename_i x hg hop
      rw [if_pos (by simp [Region.wanted, hg])]
      have hrun : (execOp a.eval o).run P w = .ok (.value (a.eval x)) w := by unfold execOp; simp [hop]
      rw [hrun]
      exact wpOpsS_rest r (j + 1) _ _ hi' h (ha.put hdo (ha.ev x)) (fun x hx => hl x (dstsO_tail hx)) hk
    · rename_i x hg hop
      rw [if_pos (by simp [Region.wanted, hg])]
      have hrun : (execOp a.eval o).run P w = .ok (.value (a.eval x)) w := by unfold execOp; simp [hop]
      rw [hrun]
      exact wpOpsS_rest r (j + 1) _ _ hi' h (ha.put hdo (ha.ev x)) (fun x hx => hl x (dstsO_tail hx)) hk
    · exact h.elim
theorem adef_of {f : FuncId} {fn : Func} {A : An} {args : List D} {m : Option D} {L : List Bx} {R : Option D → List Bx → Prop} (n : Nat) (hm : P.follows .mixedOrders = true)
    (hf : P.funcs[f]? = some fn) (hb : fn.body = some (bodyOf fn)) (hname : fn.name ≠ "runtime.NumGoroutine") (hn : args.length = n) (hres : fn.results = #[])
    (hchk : ((ltB (n + (fn.ntmps - n)) (dsts (bodyOf fn)) && noDef (bodyOf fn)) && drawsB P A (bodyOf fn)) = true)
    (h : aexR P A R m (bodyOf fn) (aenv0 args) L) : ADef P f args m L R := by
  subst hn
  simp only [Bool.and_eq_true] at hchk
  refine ⟨⟨fn, hf, by simp [hb], hname⟩, fun F w vs u aw hr hmr => callsD_of_wpS hf hb fun c₀ cs hu => ?_⟩
  have hlen := hr.length
  have ha : AAgree F w (args.length + (fn.ntmps - args.length)) (aenv0 args) { tmps := vs.toArray ++ Array.replicate (fn.ntmps - vs.toArray.size) undef, defers := [] } := by
    refine ⟨by simp [hlen], fun i => ?_, rfl⟩
    have := reps_getD hr i
    have e : (vs.toArray ++ Array.replicate (fn.ntmps - vs.toArray.size) undef).getD i undef = vs.getD i undef := by
      simp only [Array.getD_eq_getD_getElem?, List.getD_eq_getElem?_getD, Array.getElem?_append]
      split
      · simp
      · rename_i hi
        rw [Array.getElem?_replicate, List.getElem?_eq_none (by simpa using hi)]
        split <;> rfl
    simp only
    rw [e]
    exact this
  generalize ({ tmps := vs.toArray ++ Array.replicate (fn.ntmps - vs.toArray.size) undef, defers := [] } : Act) = a0 at ha
  have hlt := ltB_spec _ hchk.1.1
  have hdr := drawsB_ok hm _ hchk.2 hlt
  have hnd := hchk.1.2
  revert h hlt hdr hnd
  clear hchk hb
  generalize bodyOf fn = c
  intro h hlt hdr hnd
  unfold aexR at h
  split at h
  case h_2 => exact h.elim
  rename_i i ops b
  split at h
  case h_2 => exact h.elim
  rename_i o r hops
  simp only [pcond_eq] at h
  rw [Bool.cond_eq_ite] at h
  split at h
  case isFalse => exact h.elim
  rename_i hrec
  have hsize : ops.size = r.length + 1 := by rw [← Array.length_toList, hops]; rfl
  have ho : ops[0]? = some o := by rw [← Array.getElem?_toList, hops]; rfl
  have hrest : ∀ i, r[i]? = ops[1 + i]? := fun i => by rw [← Array.getElem?_toList, hops, Nat.add_comm, List.getElem?_cons_succ]
  have hlo : lt (args.length + (fn.ntmps - args.length)) (dstsO (o :: r)) := fun x hx => hlt x (by simp only [dsts, List.mem_append]; left; rw [hops]; exact hx)
  have hlb : lt (args.length + (fn.ntmps - args.length)) (dsts b) := fun x hx => hlt x (by simp only [dsts, List.mem_append]; exact .inr hx)
  have hdo : ∀ x, o.dst = some x → x < args.length + (fn.ntmps - args.length) := fun x hx => hlo x (dstsO_mem hx)
  have hnb : noDef b = true := by simp only [noDef, Bool.and_eq_true] at hnd; exact hnd.2
  have hrun : ∀ a : Act, (execOp a.eval o).run P w = .ok .recover w ∧ o.guard = none := by
    intro a
    unfold isRec at hrec
    split at hrec
    · rename_i c hg hop
      split at hrec
      · rename_i hc
        refine ⟨?_, hg⟩
        unfold execOp
        simp [hop, resolve, hc, invoke, builtin]
      · cases hrec
    · cases hrec
  -- behind what recovers
  have fin : ∀ (u' : FrameMode) (x : D) (v : Value), settle u' = .returning → Rep F w x v → x = recD m →
      wpOpsS P ops (Exit.thenS (b.wpS P (bodyPostS P fn c₀ cs fun e u' w' => (∃ v, e = .returned v) ∧ ∃ m' F' L', MRep F' w' m' (settle u') ∧ Ev F L w F' L' w' ∧ AW F' L' w' ∧ R m' L')) (bodyPostS P fn c₀ cs fun e u' w' => (∃ v, e = .returned v) ∧ ∃ m' F' L', MRep F' w' m' (settle u') ∧ Ev F L w F' L' w' ∧ AW F' L' w' ∧ R m' L')) (List.range' 1 r.length) (a0.put o.dst v) ({ c₀ with mode := u' } :: cs) w := by
    intro u' x v hu' hxv hx
    subst hx
    refine wpOpsS_rest (F := F) r 1 _ _ hrest h (ha.put hdo hxv) (fun x hx => hlo x (dstsO_tail hx)) ?_
    intro e1 a1 hk ha1
    refine wpS_of_wp (aex_sound b e1 L F w a1 _ hk aw ha1 hlb (.inl hnb) hdr.2 _ ?_ ?_)
    · intro z e2 L2 F2 a2 w2 hne hq he haw ha2 _ _
      have hsp : (match e2.dfr with | [] => R none L2 | _ => False) → e2.dfr = [] ∧ R none L2 := by
        intro hh
        split at hh
        · rename_i hd; exact ⟨hd, hh⟩
        · exact hh.elim
      have hfin : e2.dfr = [] ∧ R none L2 → a2.defers = [] ∧ ∃ u'', ({ c₀ with mode := u' } :: cs : List Frame) = { c₀ with mode := u'' } :: cs ∧ ∃ v, (results fn a2.tmps).run P w2 = .ok v w2 ∧ (∃ v', Ending.returned v = .returned v') ∧ ∃ m' F' L', MRep F' w2 m' (settle u'') ∧ Ev F L w F' L' w2 ∧ AW F' L' w2 ∧ R m' L' := by
        rintro ⟨hd, hR⟩
        have hdd := ha2.dfr
        rw [hd] at hdd
        refine ⟨hdd, u', rfl, .tuple #[], ?_, ⟨_, rfl⟩, none, F2, L2, hu', he, haw, hR⟩
        have := results_run (P := P) (fn := fn) (tmps := a2.tmps) (w := w2) (vs := []) (by rw [hres]; simp)
        simpa using this
      cases z with
      | normal => exact hfin (hsp hq)
      | ret => exact hfin (hsp hq)
      | panic d => cases hne
      | exit i => exact hq.elim
    · intro d e2 L2 F2 a2 w2 v hq2 he2 haw2 hr2 hd2 _
      exact hq2.elim
  refine wpS_seq (wpS_region ?_)
  rw [hsize, List.range_eq_range', List.range'_succ]
  unfold wpOpsS
  simp only [ho]
  rw [if_pos (by simp [Region.wanted, (hrun a0).2]), (hrun a0).1]
  simp only
  cases m with
  | none =>
    have hmr : u = .returning := hmr
    subst hmr
    have hrd : recoverD (c₀ :: cs) = none := by simp [recoverD, hu]
    rw [hrd]
    simp only
    have := fin .returning (.val .nilIface) .nilIface rfl (rep_val trivial) rfl
    have hc : ({ c₀ with mode := .returning } : Frame) = c₀ := by rw [← hu]
    rw [hc] at this
    exact this
  | some d =>
    obtain ⟨v, rfl, hrv⟩ := hmr
    have hrd : recoverD (c₀ :: cs) = some (v, { c₀ with mode := .panicking [{ v := v, recovered := true }] } :: cs) := by simp [recoverD, hu]
    rw [hrd]
    simp only
    exact fin (.panicking [{ v := v, recovered := true }]) d v rfl hrv rfl
theorem a_mkM {k : D → List Bx → Prop} (h : ∀ b, k (.val (.map (some b))) (⟨b, [], .map []⟩ :: L)) : amkM L k := h
theorem a_end {R : AE → List Bx → Prop} {X : Prop} (h : X) : aend R none L X := h
theorem a_negw {a : IntKind} {n : Int} {k : D → Prop} (h : k (.val (.int a (a.wrap (0 - n))))) : aneg (.val (.int a n)) k := h
theorem a_eqIh {t : Nat} {d : D} {k : D → Prop} (h : k (.b false)) : aeqI .eql (.ifc t d) (.val .nilIface) k := h
theorem a_neIh {t : Nat} {d : D} {k : D → Prop} (h : k (.b true)) : aeqI .neq (.ifc t d) (.val .nilIface) k := h
theorem a_tasT {t : Nat} {z d : D} {k : D → Prop} (h : k (.tuple [d, .b true])) : atas t z (.ifc t d) true k := by
  unfold atas
  show (bif Nat.beq t t then _ else _)
  rw [show Nat.beq t t = true by simp]
  exact h
theorem a_st0 {b o : Nat} {l : List D} {L : List Bx} {k : List Bx → Prop} (i : Nat) (hi : L[i]? = some (Bx.mk b l .box)) (ho : o ≤ l.length) (h : k L) : ast0 (.p b o) (.agg []) L k := ⟨i, l, hi, ho, h⟩
end
end Go.V
set_option linter.unusedVariables false
namespace Go.V
open Go
def isRng : Code → Bool
  | .rangeFunc .. => true
  | .block _ c => (match c with | .rangeFunc .. => true | _ => false)
  | _ => false
def rdsts : Code → List Nat
  | .rangeFunc _ ps s b => ps.toList ++ (dsts s ++ dsts b)
  | .block _ c => (match c with | .rangeFunc _ ps s b => ps.toList ++ (dsts s ++ dsts b) | _ => [])
  | _ => []
def arng (P : Program) (c : Code) (V : List Nat) (vs : List D) (L : List Bx) (K : List Bx → Prop) : Prop :=
  ∀ (F : Nat → Prop) (w : World) (a : Act), AW F L w → Reps F w vs (V.map fun d => a.tmps.getD d undef) → a.defers = [] → lt a.tmps.size (rdsts c) →
    c.wp P (fun x a' w' => x = .normal ∧ ∃ b F' L', a' = { a with defers := [{ target := .collected b, args := #[] }] } ∧ w.heap.size ≤ b ∧ w'.heap[b]? = some (.deferred (some [])) ∧ ¬ F' b ∧ (∀ x ∈ L', x.b ≠ b) ∧ Ev F L w F' L' w' ∧ AW F' L' w' ∧ K L') a w
def apostM (P : Program) (rs : List ResultVar) (R : AE → List Bx → Prop) : AX → AEnv → List Bx → Prop
  | .normal, e, L => aretG P rs e L fun l => R (.ret (atup l)) L
  | .ret, e, L => aretG P rs e L fun l => R (.ret (atup l)) L
  | _, _, _ => False
def aexM (P : Program) (A : An) (rs : List ResultVar) (R : AE → List Bx → Prop) : Code → AEnv → List Bx → Prop
  | .seq x y, e, L => match x with
    | .seq s r => pcond (isRng r) (aex P A s e L fun z e1 L1 => match z with
        | .normal => (match anOf A.j 7000000 with
          | some V => arng P r V (amapG e1 V) L1 fun L2 => aex P A y ⟨e1.get, [.mark]⟩ L2 (apostM P rs R)
          | none => False)
        | z => apost P rs R z e1 L1)
      (aex P A (.seq s r) e L fun z e1 L1 => match z with
        | .normal => aexM P A rs R y e1 L1
        | z => apost P rs R z e1 L1)
    | x => aex P A x e L fun z e1 L1 => match z with
      | .normal => aexM P A rs R y e1 L1
      | z => apost P rs R z e1 L1
  | _, _, _ => False
def chkM (n : Nat) : Code → Bool
  | .seq x y => match x with
    | .seq s r => bif isRng r then noDef s && (noDef y && ltB n (rdsts r)) else noDef (.seq s r) && chkM n y
    | x => noDef x && chkM n y
  | _ => false
def rngC : Code → Code
  | .seq x y => match x with
    | .seq s r => bif isRng r then r else rngC y
    | _ => rngC y
  | c => c
section
variable {P : Program} {F F' : Nat → Prop} {w w' : World} {L L' : List Bx}
theorem results_okM {fn : Func} {n : Nat} {R : AE → List Bx → Prop} {F0 : Nat → Prop} {L0 : List Bx} {w0 : World} {e : AEnv} {a : Act} (aw : AW F L w) (ev : Ev F0 L0 w0 F L w) (ha : AAgree F w n e a)
    (h : aretG P fn.results.toList e L fun l => R (.ret (atup l)) L) :
    ∃ v, (results fn a.tmps).run P w = .ok v w ∧ ∃ z F' L', Ev F0 L0 w0 F' L' w ∧ AW F' L' w ∧ ERep F' w z (.returned v) ∧ R z L' := by
  obtain ⟨l, vs, hl, hr, hk⟩ := aretS_sound aw _ e a.tmps _ h fun i _ => ha.tmp i
  exact ⟨_, results_run hl, .ret (atup l), F, L, ev, aw, ⟨_, rfl, atup_ok hr⟩, hk⟩
theorem mark_off {b : Nat} {o : Obj} {F0 : Nat → Prop} {L0 : List Bx} {w0 : World} (aw : AW F L w) (ev : Ev F0 L0 w0 F L w) (hb : w0.heap.size ≤ b) (hl : b < w.heap.size) (hF : ¬ F b) (hL : ∀ x ∈ L, x.b ≠ b) :
    AW F L (w.putObj b o) ∧ Ev F0 L0 w0 F L (w.putObj b o) ∧ Keeps F w F (w.putObj b o) := by
  have hsz : (w.putObj b o).heap.size = w.heap.size := by simp [World.putObj]
  have hot : ∀ k, k ≠ b → (w.putObj b o).heap[k]? = w.heap[k]? := fun k hk => World.putObj_heap_other hk
  have ks : Keeps F w F (w.putObj b o) := ⟨by omega, fun _ _ h => h, fun k _ hf => hot k fun e => hF (e ▸ hf)⟩
  refine ⟨⟨fun x hx => (aw.own x hx).keep ks (hot _ (hL x hx)), aw.nodup, aw.sep, fun b hb => by rw [hsz]; exact aw.lt b hb⟩,
    ⟨ev.os, ev.tape, ev.output, by rw [hsz]; exact ev.size, fun k hk hn => (hot k (by omega)).trans (ev.block k hk hn), ev.grow, ev.old, ev.own, ev.drawn⟩, ks⟩
theorem aexM_sound {fn : Func} {A : An} {n m : Nat} {R : AE → List Bx → Prop} {F0 : Nat → Prop} {L0 : List Bx} {w0 : World} :
    ∀ (c : Code) (ae : AEnv) (L : List Bx) (F : Nat → Prop) (w : World) (a : Act), aexM P A fn.results.toList R c ae L → Ev F0 L0 w0 F L w → AW F L w → AAgree F w n ae a → a.defers = [] → lt n (dsts c) → chkM n c = true → DrawsOk P n A c →
      c.wp P (bodyPostM Fence.wide m P fn fun e w' => ∃ a F' L', Ev F0 L0 w0 F' L' w' ∧ AW F' L' w' ∧ ERep F' w' a e ∧ R a L') a w := by
  intro c
  induction c with
  | seq x y ihx ihy =>
    intro ae L F w a h ev aw ha hd hl hchk hdr
    have hlx : lt n (dsts x) := fun i hi => hl i (by simp [dsts, hi])
    have hly : lt n (dsts y) := fun i hi => hl i (by simp [dsts, hi])
    by_cases hx : ∃ s r, x = .seq s r ∧ isRng r = true
    · obtain ⟨s, r, rfl, hr⟩ := hx
      simp only [aexM, hr] at h
      simp only [chkM, hr, cond_true, Bool.and_eq_true] at hchk
      obtain ⟨hns, hny, hlr⟩ := hchk
      have hlr := ltB_spec _ hlr
      have hls : lt n (dsts s) := fun i hi => hlx i (by simp [dsts, hi])
      refine wp_seq (wp_seq (aex_sound s ae L F w a _ h aw ha hls (.inl hns) hdr.1.1 _ ?_ ?_))
      · intro z e1 L1 F1 a1 w1 hne hq he haw ha1 _ hdef
        have hd1 : a1.defers = [] := (hdef hns).trans hd
        cases z with
        | panic d => cases hne
        | exit i => exact hq.elim
        | ret =>
          have hq : apost P fn.results.toList R .ret e1 L1 := hq
          show LeavesInM Fence.wide m P fn a1.tmps _ a1.defers .returning w1
          simp only [apost] at hq
          split at hq
          case h_2 => exact hq.elim
          rw [hd1]
          exact results_okM haw (ev.trans he) ha1 hq
        | normal =>
          simp only at hq
          split at hq
          case h_2 => exact hq.elim
          rename_i V hV
          have hsz : a1.tmps.size = n := ha1.size
          refine wp_mono (hq F1 w1 a1 haw (amapG_ok ha1 V) hd1 (by rw [hsz]; exact hlr)) ?_
          rintro z a2 w2 ⟨rfl, b, F2, L2, rfl, hb, hbk, hF2, hL2, ev2, aw2, hK⟩
          have ha2 : AAgree F2 w2 n ⟨e1.get, [.mark]⟩ { a1 with defers := [{ target := .collected b, args := #[] }] } := ⟨ha1.size, fun i => (ha1.tmp i).ev ev2 haw, ⟨b, [], rfl, rfl⟩⟩
          have hb0 : w0.heap.size ≤ b := Nat.le_trans (ev.trans he).size hb
          have hbl : b < w2.heap.size := (Array.getElem?_eq_some_iff.1 hbk).1
          have key : ∀ (ae' : AEnv) (L' : List Bx) (F' : Nat → Prop) (a' : Act) (w' : World), (aretG P fn.results.toList ae' L' fun l => R (.ret (atup l)) L') → Ev F2 L2 w2 F' L' w' → AW F' L' w' → AAgree F' w' n ae' a' → a'.defers = [{ target := .collected b, args := #[] }] →
              LeavesInM Fence.wide m P fn a'.tmps (fun e w' => ∃ a F' L', Ev F0 L0 w0 F' L' w' ∧ AW F' L' w' ∧ ERep F' w' a e ∧ R a L') a'.defers .returning w' := by
            intro ae' L' F' a' w' hq he' haw' ha' hdd
            have hbk' : w'.heap[b]? = some (.deferred (some [])) := (he'.block b hbl hL2).trans hbk
            have hF' : ¬ F' b := fun hf => by
              rcases he'.old b hbl hf with h | ⟨x, hx, hxb⟩
              · exact hF2 h
              · exact hL2 x hx hxb
            have hL' : ∀ x ∈ L', x.b ≠ b := fun x hx hxb => by
              obtain ⟨y, hy, hyb⟩ := he'.own x hx (by omega)
              exact hL2 y hy (hyb.trans hxb)
            obtain ⟨aw3, ev3, ks⟩ := mark_off (o := .deferred none) haw' (((ev.trans he).trans ev2).trans he') hb0 (Nat.lt_of_lt_of_le hbl he'.size) hF' hL'
            have ha3 : AAgree F' (w'.putObj b (.deferred none)) n ⟨ae'.get, []⟩ { a' with defers := [] } := ⟨ha'.size, fun i => Rep.keep ks _ _ (ha'.tmp i), rfl⟩
            rw [hdd]
            refine ⟨by simp, .inl ⟨b, _, rfl, run_takeDeferred hbk', ?_⟩⟩
            exact results_okM (a := { a' with defers := [] }) aw3 ev3 ha3 (aretG_congr (e := ae') (e' := ⟨ae'.get, []⟩) _ _ (fun _ _ => rfl) hq)
          refine aex_sound y _ L2 F2 w2 _ _ hK aw2 ha2 hly (.inl hny) hdr.2 _ ?_ ?_
          · intro z2 e2 L3 F3 a3 w3 hne2 hq2 he2 haw2 ha3 _ hdef2
            cases z2 with
            | normal => exact key _ _ _ _ _ hq2 he2 haw2 ha3 (hdef2 hny)
            | ret => exact key _ _ _ _ _ hq2 he2 haw2 ha3 (hdef2 hny)
            | panic d => cases hne2
            | exit i => exact hq2.elim
          · intro d e2 L3 F3 a3 w3 v hq2
            exact hq2.elim
      · intro d e1 L1 F1 a1 w1 v hq he haw hr hdd hs
        simp only [apost] at hq
        split at hq
        case h_2 => exact hq.elim
        rename_i hz
        rw [hz] at hdd
        have hdd : a1.defers = [] := hdd
        show LeavesInM _ _ _ _ _ _ a1.defers _ _
        rw [hdd]
        exact ⟨.pan d, F1, L1, ev.trans he, haw, ⟨v, rfl, hr⟩, hq⟩
    · have h' : aex P A x ae L fun z e1 L1 => match z with
          | .normal => aexM P A fn.results.toList R y e1 L1
          | z => apost P fn.results.toList R z e1 L1 := by
        cases x with
        | seq s r =>
          cases hr : isRng r with
          | true => exact absurd ⟨s, r, rfl, hr⟩ hx
          | false => simp only [aexM, hr] at h; exact h
        | _ => exact h
      have hchk' : noDef x = true ∧ chkM n y = true := by
        cases x with
        | seq s r =>
          cases hr : isRng r with
          | true => exact absurd ⟨s, r, rfl, hr⟩ hx
          | false => simp only [chkM, hr, cond_false, Bool.and_eq_true] at hchk; exact hchk
        | _ => simp only [chkM, Bool.and_eq_true] at hchk; exact hchk
      refine wp_seq (aex_sound x ae L F w a _ h' aw ha hlx (.inl hchk'.1) hdr.1 _ ?_ ?_)
      · intro z e1 L1 F1 a1 w1 hne hq he haw ha1 _ hdef
        have hd1 : a1.defers = [] := (hdef hchk'.1).trans hd
        have key : apost P fn.results.toList R .ret e1 L1 → LeavesInM Fence.wide m P fn a1.tmps (fun e w' => ∃ a F' L', Ev F0 L0 w0 F' L' w' ∧ AW F' L' w' ∧ ERep F' w' a e ∧ R a L') a1.defers .returning w1 := by
          intro hq
          simp only [apost] at hq
          split at hq
          case h_2 => exact hq.elim
          rw [hd1]
          exact results_okM haw (ev.trans he) ha1 hq
        cases z with
        | normal => exact ihy e1 L1 F1 w1 a1 hq (ev.trans he) haw ha1 hd1 hly hchk'.2 hdr.2
        | ret => exact key hq
        | panic d => cases hne
        | exit i => exact hq.elim
      · intro d e1 L1 F1 a1 w1 v hq he haw hr hdd hs
        simp only [apost] at hq
        split at hq
        case h_2 => exact hq.elim
        rename_i hz
        rw [hz] at hdd
        have hdd : a1.defers = [] := hdd
        show LeavesInM _ _ _ _ _ _ a1.defers _ _
        rw [hdd]
        exact ⟨.pan d, F1, L1, ev.trans he, haw, ⟨v, rfl, hr⟩, hq⟩
  | _ => intro ae L F w a h; exact h.elim
theorem aspec_ofM {f : FuncId} {fn : Func} {A : An} {args : List D} {L : List Bx} {R : AE → List Bx → Prop} (n : Nat) (hm : P.follows .mixedOrders = true)
    (hf : P.funcs[f]? = some fn) (hb : fn.body = some (bodyOf fn)) (hname : fn.name ≠ "runtime.NumGoroutine") (hn : args.length = n)
    (hchk : ((ltB (n + (fn.ntmps - n)) (dsts (bodyOf fn)) && chkM (n + (fn.ntmps - n)) (bodyOf fn)) && drawsB P A (bodyOf fn)) = true)
    (h : aexM P A fn.results.toList R (bodyOf fn) (aenv0 args) L) : ASpec P f args L R := by
  subst hn
  simp only [Bool.and_eq_true] at hchk
  intro F w vs aw hr
  refine .inl ⟨⟨fn, hf, by simp [hb], hname⟩, (callsIn_wide (n := 0)).1 (callsIn_of_wp_marks hf hb trivial (wpIn_wide.2 ?_))⟩
  have hlen := hr.length
  have ha : AAgree F w (args.length + (fn.ntmps - args.length)) (aenv0 args) { tmps := vs.toArray ++ Array.replicate (fn.ntmps - vs.toArray.size) undef, defers := [] } := by
    refine ⟨by simp [hlen], fun i => ?_, rfl⟩
    have := reps_getD hr i
    have e : (vs.toArray ++ Array.replicate (fn.ntmps - vs.toArray.size) undef).getD i undef = vs.getD i undef := by
      simp only [Array.getD_eq_getD_getElem?, List.getD_eq_getElem?_getD, Array.getElem?_append]
      split
      · simp
      · rename_i hi
        rw [Array.getElem?_replicate, List.getElem?_eq_none (by simpa using hi)]
        split <;> rfl
    simp only
    rw [e]
    exact this
  exact aexM_sound _ _ L F w _ h (Ev.refl ..) aw ha rfl (ltB_spec _ hchk.1.1) hchk.1.2 (drawsB_ok hm _ hchk.2 (ltB_spec _ hchk.1.1))
end
end Go.V
set_option linter.unusedVariables false
namespace Go.V
open Go
def aopsI (P : Program) : List Oper → AEnv → List Bx → (AEnv → List Bx → Prop) → Prop
  | [], e, L, k => k e L
  | o :: r, e, L, k => match o.guard with
    | some _ => False
    | none => match o.op with
      | .defer _ => False
      | op => aopQ P false o.type op e.ev L (fun v L' => aopsI P r (e.put o.dst v) L' k) (fun _ _ => False)
def aexI (P : Program) : Code → AEnv → List Bx → (AEnv → List Bx → Prop) → Prop
  | .skip, e, L, k => k e L
  | .region _ ops draw, e, L, k => pcond draw False (aopsI P ops.toList e L k)
  | .seq a b, e, L, k => aexI P a e L fun e1 L1 => aexI P b e1 L1 k
  | .cond c a b, e, L, k => acnd (e.ev c) (aexI P a e L k) (aexI P b e L k)
  | .block _ c, e, L, k => aexI P c e L k
  | _, _, _, _ => False
def envV (V : List Nat) (vs : List D) : AEnv := AEnv.putL ⟨fun _ => .top, []⟩ V vs
def RF (F : Fence) : Prop := F = Fence.wide ∨ ∃ l, F = Fence.wide.inRound l
section
variable {P : Program} {n m : Nat} {F F' : Nat → Prop} {w w' : World} {L L' : List Bx} {ae : AEnv} {a : Act} {o : Oper} {F0 : Fence}
theorem RF.fn (h : RF F0) (f : FuncId) : F0.fn f := by rcases h with rfl | ⟨l, rfl⟩ <;> trivial
theorem RF.depth (h : RF F0) : F0.depth = none := by rcases h with rfl | ⟨l, rfl⟩ <;> rfl
theorem RF.calls (h : RF F0) {g : FuncId} {args : Array Value} {R : Ending → World → Prop} (k : Nat) (hc : Calls P g args w R) : CallsIn F0 k P g args w R := by
  rcases h with rfl | ⟨l, rfl⟩
  · exact callsIn_wide.2 hc
  · exact CallsIn.inRound l (callsIn_wide.2 hc)
theorem RF.sem (h : RF F0) (ρ : Operand → Value) (hd : ∀ c, o.op ≠ .defer c) : o.semAt F0.round ρ = execOp ρ o := by
  rcases h with rfl | ⟨l, rfl⟩
  · rfl
  · exact Oper.semAt_some l ρ o hd
theorem op_in (hF : RF F0) {next : Act → World → Prop} {Q : Exit → Act → World → Prop} (hd : ∀ c, o.op ≠ .defer c)
    (h : Out P w (fun v w' => next (a.put o.dst v) w') (fun _ _ => False) ((execOp a.eval o).run P w)) : o.wpIn F0 m P a w next Q := by
  refine ⟨fun f _ => hF.fn f, ?_⟩
  rw [hF.sem a.eval hd]
  generalize (execOp a.eval o).run P w = r at h
  cases h with
  | value v w' h => exact h
  | skip w' h => exact h
  | enter g args h =>
    refine ⟨fun h => (by rw [hF.depth] at h; cases h), hF.calls _ (h.mono fun e w' he => ?_)⟩
    cases e with
    | returned v => exact he
    | panicked c => exact he.elim
    | outgrown => exact he.elim
  | panic v w' h => exact h.elim
theorem aopsI_list (hF : RF F0) {ops : Array Oper} {Q : Exit → Act → World → Prop} {rest : List Oper} : ∀ (l : List Oper) (ae : AEnv) (L : List Bx) (F : Nat → Prop) (w : World) (a : Act) (k : AEnv → List Bx → Prop),
    aopsI P l ae L k → AW F L w → AAgree F w n ae a → lt n (dstsO l) → (∀ ae' L' F' a' w', k ae' L' → Ev F L w F' L' w' → AW F' L' w' → AAgree F' w' n ae' a' → a'.defers = a.defers → ASame (dstsO l) a a' → wpListIn F0 m P ops Q rest a' w') → wpListIn F0 m P ops Q (l ++ rest) a w
  | [], ae, L, F, w, a, k, h, aw, ha, _, hk => hk ae L F a w h (Ev.refl ..) aw ha rfl (ASame.refl _ _)
  | o :: r, ae, L, F, w, a, k, h, aw, ha, hl, hk => by
    simp only [aopsI] at h
    split at h
    · exact h.elim
    rename_i hg
    have hdef : ∀ c, o.op ≠ .defer c := fun c hc => by rw [hc] at h; exact h
    have h' : aopK P false o.type o.op ae.ev L (fun v L' => aopsI P r (ae.put o.dst v) L' k) (fun _ _ => False) := by
      rw [← aopQ_eq]
      split at h
      · exact h.elim
      · exact h
    have hd : ∀ x, o.dst = some x → x < n := fun x hx => hl x (dstsO_mem hx)
    show wpListIn F0 m P ops Q (o :: (r ++ rest)) a w
    unfold wpListIn
    rw [if_pos (by simp [Region.wanted, hg])]
    refine op_in hF hdef (opK_sound (aopK_sound (ρc := a.eval) (kpc := fun _ _ => False) h' aw (fun x _ => ha.ev x) ?_ (fun _ _ _ _ _ h _ _ _ => h)))
    intro d L' v w' F' h1 h2 h3 h4
    refine aopsI_list hF r _ L' F' w' _ k h1 h3 ((ha.move h2 aw).put hd h4) (fun x hx => hl x (dstsO_tail hx)) ?_
    intro ae2 L2 F2 a2 w2 q1 q2 q3 q4 q5 q6
    refine hk ae2 L2 F2 a2 w2 q1 (h2.trans q2) q3 q4 (q5.trans (by cases o.dst <;> rfl)) ?_
    exact (asame_put ha hd v _ fun x hx => dstsO_mem hx).trans (q6.mono fun i hi => dstsO_tail hi)
theorem aexI_sound (hF : RF F0) : ∀ (c : Code) (ae : AEnv) (L : List Bx) (F : Nat → Prop) (w : World) (a : Act) (k : AEnv → List Bx → Prop) (Qa : Exit → Act → World → Prop),
    aexI P c ae L k → AW F L w → AAgree F w n ae a → lt n (dsts c) → (∀ ae' L' F' a' w', k ae' L' → Ev F L w F' L' w' → AW F' L' w' → AAgree F' w' n ae' a' → a'.defers = a.defers → ASame (dsts c) a a' → Qa .normal a' w') → c.wpIn F0 m P Qa a w := by
  intro c
  induction c with
  | skip => intro ae L F w a k Qa h aw ha _ hk; exact wpIn_skip (hk ae L F a w h (Ev.refl ..) aw ha rfl (ASame.refl _ _))
  | region id ops draw =>
    intro ae L F w a k Qa h aw ha hl hk
    simp only [aexI, pcond_eq] at h
    cases draw with
    | true => exact h.elim
    | false =>
      refine wpIn_region_list ?_
      have := aopsI_list (m := m) hF (ops := ops) (Q := Qa) (rest := []) ops.toList ae L F w a k h aw ha hl fun ae' L' F' a' w' q1 q2 q3 q4 q5 q6 => wpListIn_nil (hk ae' L' F' a' w' q1 q2 q3 q4 q5 q6)
      rwa [List.append_nil] at this
  | seq x y ihx ihy =>
    intro ae L F w a k Qa h aw ha hl hk
    have hlx : lt n (dsts x) := fun i hi => hl i (by simp [dsts, hi])
    have hly : lt n (dsts y) := fun i hi => hl i (by simp [dsts, hi])
    refine wpIn_seq (ihx ae L F w a _ _ h aw ha hlx ?_)
    intro ae1 L1 F1 a1 w1 q1 q2 q3 q4 q5 q6
    refine ihy ae1 L1 F1 w1 a1 k Qa q1 q3 q4 hly ?_
    intro ae2 L2 F2 a2 w2 r1 r2 r3 r4 r5 r6
    exact hk ae2 L2 F2 a2 w2 r1 (q2.trans r2) r3 r4 (r5.trans q5) ((q6.mono fun i hi => by simp [dsts, hi]).trans (r6.mono fun i hi => by simp [dsts, hi]))
  | cond c x y ihx ihy =>
    intro ae L F w a k Qa h aw ha hl hk
    have hlx : lt n (dsts x) := fun i hi => hl i (by simp [dsts, hi])
    have hly : lt n (dsts y) := fun i hi => hl i (by simp [dsts, hi])
    obtain ⟨t, _, hv, h1, h2⟩ := acnd_spec h (ha.ev c)
    refine wpIn_cond_split hv (fun e => ?_) (fun e => ?_)
    · exact ihx ae L F w a k Qa (h1 e) aw ha hlx fun ae' L' F' a' w' q1 q2 q3 q4 q5 q6 => hk ae' L' F' a' w' q1 q2 q3 q4 q5 (q6.mono fun i hi => by simp [dsts, hi])
    · exact ihy ae L F w a k Qa (h2 e) aw ha hly fun ae' L' F' a' w' q1 q2 q3 q4 q5 q6 => hk ae' L' F' a' w' q1 q2 q3 q4 q5 (q6.mono fun i hi => by simp [dsts, hi])
  | block id c ih =>
    intro ae L F w a k Qa h aw ha hl hk
    exact wpIn_block (ih ae L F w a k _ h aw ha hl fun ae' L' F' a' w' q1 q2 q3 q4 q5 q6 => hk ae' L' F' a' w' q1 q2 q3 q4 q5 q6)
  | _ => intro ae L F w a k Qa h; exact h.elim
theorem envV_agree {V : List Nat} {vs : List D} (hv : Reps F w vs (V.map fun d => a.tmps.getD d undef)) (hs : a.tmps.size = n) (hd : a.defers = []) : AAgree F w n (envV V vs) a := by
  refine ⟨hs, fun i => ?_, hd⟩
  show Rep F w (match pos i V 0 with | some j => aix vs j | none => .top) _
  cases hp : pos i V 0 with
  | none => exact rep_top
  | some j =>
    have h1 := (pos_lt V i 0 j hp).2
    rw [Nat.sub_zero] at h1
    have h2 := reps_getD hv j
    have e : (V.map fun d => a.tmps.getD d undef).getD j undef = a.tmps.getD i undef := by
      rw [List.getD_eq_getElem?_getD, List.getElem?_map, h1]; rfl
    rw [e] at h2
    exact h2
def Iter (P : Program) (g : FuncId) (sz : Nat) : Prop :=
  Enters P g ∧ ∀ (lp b : Nat) (l : List (List D)) (J : Nat → (Nat → Prop) → List Bx → World → Prop), l.length ≤ 9223372036854775807 → (∀ x ∈ l, x.length = sz) →
    (∀ k F L w, J k F L w → AW F L w ∧ ∃ i : Nat, L[i]? = some (Bx.mk b [.row sz l] .box)) →
    (∀ k F L w F' w', J k F L w → Ev F L w F' L w' → AW F' L w' → J k F' L w') →
    (∀ k F L w (h : k < l.length), J k F L w → ∀ vs, Reps F w [.i ((l.length - 1 - k : Nat) : Int), .agg (l[l.length - 1 - k]'(by omega))] vs →
      ∃ fn tmps asg body, (Instr.yield lp vs.toArray).run P w = .ok (.round lp fn tmps asg body) w ∧ ∀ q, RoundIn Fence.wide q P lp fn tmps asg body w fun e w' => e = .returned (.bool true) ∧ ∃ F' L', J (k + 1) F' L' w') →
    ∀ F L w, J 0 F L w → ∀ q, CallsIn Fence.wide q P g #[.func (.yield lp) #[] #[], .pointer (some ⟨b, 0, none⟩)] w fun e w' => (∃ v, e = .returned v) ∧ ∃ F' L', J l.length F' L' w'
theorem zip2 {p1 p2 : Nat} {t : Array Value} {u v : Value} : ((#[p1, p2].zip #[u, v]).foldl (fun t (p, v) => t.setIfInBounds p v) t) = (t.setIfInBounds p1 u).setIfInBounds p2 v := by simp
theorem set2_agree {e : AEnv} {p1 p2 : Nat} {d1 d2 : D} {u v : Value} (ha : AAgree F w n e a) (hd : a.defers = []) (h1 : p1 < n) (h2 : p2 < n) (r1 : Rep F w d1 u) (r2 : Rep F w d2 v) :
    AAgree F w n ((e.put (some p1) d1).put (some p2) d2) { tmps := (a.tmps.setIfInBounds p1 u).setIfInBounds p2 v, defers := [] } := by
  have q := (ha.put (d := some p1) (fun x hx => by cases hx; exact h1) r1).put (d := some p2) (fun x hx => by cases hx; exact h2) r2
  refine ⟨q.size, q.tmp, ?_⟩
  have := q.dfr
  simp only [AEnv.dfr_put] at this ⊢
  have e1 : (((a.put (some p1) u).put (some p2) v)).defers = [] := hd
  rw [e1] at this
  exact this
theorem arng_back {id tf p1 p2 : Nat} {asg body : Code} {V : List Nat} {vs : List D} {K : List Bx → Prop} {g : FuncId} {sz b : Nat} {l : List (List D)} (hit : Iter P g sz) (hl : l.length ≤ 9223372036854775807) (hls : ∀ x ∈ l, x.length = sz)
    (hV : (envV V vs).get tf = .fn g [] [.p b 0]) (I : Nat → List Bx → Prop) (h0 : I 0 L) (hbox : ∀ k L1, I k L1 → ∃ i : Nat, L1[i]? = some (Bx.mk b [.row sz l] .box))
    (Vb : List Nat) (hmap : ∀ d1 d2, amapG (((envV V vs).put (some p1) d1).put (some p2) d2) (p1 :: p2 :: V) = d1 :: d2 :: vs)
    (hround : ∀ k L1, I k L1 → ∀ h : k < l.length, aexI P asg (envV (p1 :: p2 :: V) (.i ((l.length - 1 - k : Nat) : Int) :: .agg (l[l.length - 1 - k]'(by omega)) :: vs)) L1 fun e2 L2 =>
      aexI P body (envV Vb (amapG e2 Vb)) L2 fun _ L3 => ∃ L4, Gl [] L3 [] L4 ∧ I (k + 1) L4)
    (hend : ∀ L1, I l.length L1 → K L1) :
    arng P (.block id (.rangeFunc (.tmp tf) #[p1, p2] asg body)) V vs L K := by
  intro F w a aw hr hd hlt
  have ha0 := envV_agree (F := F) (w := w) (n := a.tmps.size) hr rfl hd
  have hp1 : p1 < a.tmps.size := hlt p1 (by simp [rdsts])
  have hp2 : p2 < a.tmps.size := hlt p2 (by simp [rdsts])
  have hasg : lt a.tmps.size (dsts asg) := fun i hi => hlt i (by simp [rdsts, hi])
  have hbod : lt a.tmps.size (dsts body) := fun i hi => hlt i (by simp [rdsts, hi])
  have hfv : a.eval (.tmp tf) = .func (.func g) #[] #[.pointer (some ⟨b, 0, none⟩)] := by
    have h := ha0.tmp tf
    rw [hV, Rep] at h
    obtain ⟨as, cs, h1, h2, h3⟩ := h
    rw [Reps] at h2
    subst h2
    obtain ⟨v, rfl, h4⟩ := h3.one
    obtain ⟨rfl, _⟩ := rep_val_iff.1 h4
    exact h1
  refine wp_block (wpIn_wide (n := 0).1 (wpIn_rangeFunc ?_))
  intro fn _
  obtain ⟨rec, hrec⟩ : ∃ rec : LoopState → Option Code → Loop, rec = fun st pe => { state := st, pending := pe, fn, tmps := a.tmps, params := #[p1, p2], assign := asg, body, defers := w.heap.size } := ⟨_, rfl⟩
  obtain ⟨W1, hW1⟩ : ∃ W1, (w.alloc (.deferred (some []))).alloc (.loop (rec .ready none)) = W1 := ⟨_, rfl⟩
  have hL1 : W1.heap[w.heap.size + 1]? = some (.loop (rec .ready none)) := by
    rw [← hW1]; have := World.alloc_heap_new (w.alloc (.deferred (some []))) (.loop (rec .ready none)); rwa [World.size_alloc] at this
  have hK1 : W1.heap[w.heap.size]? = some (.deferred (some [])) := by
    rw [← hW1]; exact (RowKit.Below.heap_alloc _ _ _ (by simp)).trans (World.alloc_heap_new w _)
  have hold : ∀ k, k < w.heap.size → W1.heap[k]? = w.heap[k]? := fun k hk => by
    rw [← hW1]; exact (RowKit.Below.heap_alloc _ _ _ (by simp; omega)).trans (RowKit.Below.heap_alloc _ _ _ hk)
  have hsz1 : W1.heap.size = w.heap.size + 2 := by rw [← hW1]; simp
  have aw1 : AW F L W1 ∧ Ev F L w F L W1 := by
    have ks : Keeps F w F W1 := ⟨by omega, fun _ _ h => h, fun k hk _ => hold k hk⟩
    refine ⟨⟨fun x hx => (aw.own x hx).keep ks (hold _ (aw.own x hx).lt), aw.nodup, aw.sep, fun b hb => by have := aw.lt b hb; omega⟩, ⟨?_, ?_, ?_, by omega, fun k hk _ => hold k hk, fun _ h => h, fun _ _ h => .inl h, fun x hx _ => ⟨x, hx, rfl⟩, ?_⟩⟩
    · rw [← hW1]; rfl
    · rw [← hW1]; rfl
    · rw [← hW1]; rfl
    · rw [← hW1]; exact Nat.le_refl _
  obtain ⟨lp, hlp⟩ : ∃ lp, w.heap.size + 1 = lp := ⟨_, rfl⟩
  obtain ⟨D0, hD0⟩ : ∃ D0, w.heap.size = D0 := ⟨_, rfl⟩
  rw [hlp] at hL1
  rw [hD0] at hK1
  -- between two rounds
  let J : Nat → (Nat → Prop) → List Bx → World → Prop := fun k F1 L1 W => I k L1 ∧ Ev F L w F1 L1 W ∧ AW F1 L1 W ∧ W.heap[lp]? = some (.loop (rec .ready none)) ∧ W.heap[D0]? = some (.deferred (some [])) ∧
    (¬ F1 lp ∧ ¬ F1 D0) ∧ ∀ x ∈ L1, x.b ≠ lp ∧ x.b ≠ D0
  have hFn : ¬ F lp ∧ ¬ F D0 := ⟨fun h => by have := aw.lt _ h; omega, fun h => by have := aw.lt _ h; omega⟩
  have hLn : ∀ x ∈ L, x.b ≠ lp ∧ x.b ≠ D0 := fun x hx => by have := (aw.own x hx).lt; omega
  -- what an own step keeps of the record and the mark
  have keep : ∀ {F1 F2 : Nat → Prop} {L1 L2 : List Bx} {A B : World} {o1 o2 : Obj}, Ev F1 L1 A F2 L2 B → A.heap[lp]? = some o1 → A.heap[D0]? = some o2 → (¬ F1 lp ∧ ¬ F1 D0) → (∀ x ∈ L1, x.b ≠ lp ∧ x.b ≠ D0) →
      B.heap[lp]? = some o1 ∧ B.heap[D0]? = some o2 ∧ (¬ F2 lp ∧ ¬ F2 D0) ∧ ∀ x ∈ L2, x.b ≠ lp ∧ x.b ≠ D0 := by
    intro F1 F2 L1 L2 A B o1 o2 he h1 h2 h3 h4
    have s1 := (Array.getElem?_eq_some_iff.1 h1).1
    have s2 := (Array.getElem?_eq_some_iff.1 h2).1
    refine ⟨(he.block lp s1 fun x hx => (h4 x hx).1).trans h1, (he.block D0 s2 fun x hx => (h4 x hx).2).trans h2, ⟨fun hf => ?_, fun hf => ?_⟩, fun x hx => ⟨fun e => ?_, fun e => ?_⟩⟩
    · rcases he.old lp s1 hf with h | ⟨x, hx, hxb⟩
      · exact h3.1 h
      · exact (h4 x hx).1 hxb
    · rcases he.old D0 s2 hf with h | ⟨x, hx, hxb⟩
      · exact h3.2 h
      · exact (h4 x hx).2 hxb
    · obtain ⟨y, hy, hyb⟩ := he.own x hx (by omega)
      exact (h4 y hy).1 (hyb.trans e)
    · obtain ⟨y, hy, hyb⟩ := he.own x hx (by omega)
      exact (h4 y hy).2 (hyb.trans e)
  -- the law's own turn of the record
  have turn : ∀ {F1 : Nat → Prop} {L1 : List Bx} {A : World} (o : Obj), AW F1 L1 A → Ev F L w F1 L1 A → lp < A.heap.size → A.heap[D0]? = some (.deferred (some [])) → (¬ F1 lp ∧ ¬ F1 D0) → (∀ x ∈ L1, x.b ≠ lp ∧ x.b ≠ D0) →
      AW F1 L1 (A.putObj lp o) ∧ Ev F L w F1 L1 (A.putObj lp o) ∧ (A.putObj lp o).heap[lp]? = some o ∧ (A.putObj lp o).heap[D0]? = some (.deferred (some [])) ∧ Keeps F1 A F1 (A.putObj lp o) := by
    intro F1 L1 A o h1 h2 h3 h4 h5 h6
    obtain ⟨q1, q2, q3⟩ := mark_off (o := o) h1 h2 (show w.heap.size ≤ lp by omega) h3 h5.1 fun x hx => (h6 x hx).1
    exact ⟨q1, q2, World.putObj_heap_same h3, (World.putObj_heap_other (by omega)).trans h4, q3⟩
  refine ⟨lp, [{ target := .collected D0, args := #[] }], W1, { target := .fn (.func g) #[.pointer (some ⟨b, 0, none⟩)], args := #[.func (.yield lp) #[] #[]] }, W1, g,
    #[.func (.yield lp) #[] #[]] ++ #[.pointer (some ⟨b, 0, none⟩)], W1, ?_, ?_, fun _ _ => trivial, ?_, (fun h => by cases h), ?_⟩
  · rw [← hW1, hrec, ← hlp, ← hD0]; exact run_enterLoop_outer _ _ _ _ _
  · simp only [resolve, hfv]
    simp [go_sem]
  · have := run_enter hit.1 #[.func (.yield lp) #[] #[], .pointer (some ⟨b, 0, none⟩)] W1
    simp [invoke, go_sem, this]
  refine (hit.2 lp b l J hl hls ?_ ?_ ?_ F L W1 ⟨h0, aw1.2, aw1.1, hL1, hK1, hFn, hLn⟩ _).mono ?_
  · rintro k F1 L1 W ⟨hi, _, haw, _⟩
    exact ⟨haw, hbox k L1 hi⟩
  · rintro k F1 L1 W F2 W' ⟨hi, hev, haw, h1, h2, h3, h4⟩ he haw'
    obtain ⟨q1, q2, q3, q4⟩ := keep he h1 h2 h3 h4
    exact ⟨hi, hev.trans he, haw', q1, q2, q3, q4⟩
  · -- one round
    rintro k F1 L1 W hk ⟨hi, hev, haw, hl1, hk1, hf1, hn1⟩ us hus
    obtain ⟨u, us', rfl, hu, hus'⟩ : ∃ u r, us = u :: r ∧ Rep F1 W (.i ((l.length - 1 - k : Nat) : Int)) u ∧ Reps F1 W [.agg (l[l.length - 1 - k]'(by omega))] r := by rw [Reps] at hus; exact hus
    obtain ⟨v, rfl, hv⟩ := hus'.one
    have hls : lp < W.heap.size := (Array.getElem?_eq_some_iff.1 hl1).1
    have hy := run_yield (P := P) (args := #[u, v]) hl1 (by rw [hrec]; rfl)
    rw [hrec] at hy
    refine ⟨fn, _, asg, body, hy, fun q => roundIn_of_wpIn trivial ?_⟩
    have haa : AAgree F1 W a.tmps.size (envV V vs) a := ha0.move hev aw
    have hset := set2_agree (p1 := p1) (p2 := p2) haa hd hp1 hp2 hu hv
    simp only [zip2]
    have hset' := envV_agree (V := p1 :: p2 :: V) (by have := amapG_ok hset (p1 :: p2 :: V); rwa [hmap] at this) hset.size rfl
    refine aexI_sound (.inr ⟨lp, rfl⟩) asg _ L1 F1 W _ _ _ (hround k L1 hi hk) haw hset' hasg ?_
    intro e2 L2 F2 a2 W2 hk2 he2 haw2 ha2 hd2 _
    obtain ⟨g1, g2, g3, g4⟩ := keep he2 hl1 hk1 hf1 hn1
    refine ⟨_, run_beginRound g1 (by rw [hrec]), ?_⟩
    obtain ⟨t1, t2, t3, t4, t5⟩ := turn (.loop { rec .ready none with state := .busy }) haw2 (hev.trans he2) (Array.getElem?_eq_some_iff.1 g1).1 g2 g3 g4
    have ha3 : AAgree F2 (W2.putObj lp (.loop { rec .ready none with state := .busy })) a.tmps.size e2 a2 := ⟨ha2.size, fun i => Rep.keep t5 _ _ (ha2.tmp i), ha2.dfr.keep t5⟩
    refine aexI_sound (.inr ⟨lp, rfl⟩) body _ L2 F2 _ a2 _ _ hk2 t1 (envV_agree (amapG_ok ha3 Vb) ha3.size hd2) hbod ?_
    rintro e4 L3 F4 a4 W4 ⟨L4, hgl, hi4⟩ he4 haw4 _ _ _
    obtain ⟨F5, ev5, aw5, _⟩ := hgl F4 W4 [] haw4 reps_nil
    obtain ⟨s1, s2, s3, s4⟩ := keep (he4.trans ev5) t3 t4 g3 g4
    have hend' := run_endRound (P := P) none s1
    have hs : lp < W4.heap.size := (Array.getElem?_eq_some_iff.1 s1).1
    obtain ⟨r1, r2, r3, r4, _⟩ := turn (.loop (rec .ready none)) aw5 ((t2.trans he4).trans ev5) hs s2 s3 s4
    have e1 : (W4.putObj lp (.loop { { rec .ready none with state := .busy } with state := if (none : Option Code).isNone then .ready else .done, pending := none })) = W4.putObj lp (.loop (rec .ready none)) := by rw [hrec]; rfl
    rw [e1] at hend'
    exact ⟨_, _, hend', rfl, F5, L4, hi4, r2, r1, r3, r4, s3, s4⟩
  · -- behind the iterator
    rintro e W2 ⟨⟨v, rfl⟩, F2, L2, hi, hev, haw, h1, h2, h3, h4⟩
    obtain ⟨r1, r2, r3, r4, _⟩ := turn (.loop { rec .ready none with state := .exhausted }) haw hev (Array.getElem?_eq_some_iff.1 h1).1 h2 h3 h4
    refine ⟨none, _, by have := run_endLoop (P := P) h1 (by rw [hrec]; simp); rw [hrec] at this; exact this, ?_⟩
    show Exit.inBlock id _ .normal _ _
    have hr4 : (W2.putObj lp (.loop { rec .ready none with state := .exhausted })).heap[D0]? = some (.deferred (some [])) := r4
    refine ⟨rfl, D0, F2, L2, ?_, by omega, ?_, h3.2, fun x hx => (h4 x hx).2, ?_, ?_, hend _ hi⟩
    · rw [hd]
      cases a; rfl
    · rw [hrec] at hr4; exact hr4
    · rw [hrec] at r2; exact r2
    · rw [hrec] at r1; exact r1
end
end Go.V
namespace Go.V
open Go
def cA : Code → Code
  | .seq a _ => a
  | .block _ c => c
  | .loop c => c
  | .cond _ a _ => a
  | .rangeFunc _ _ s _ => s
  | c => c
def cB : Code → Code
  | .seq _ b => b
  | .cond _ _ b => b
  | .rangeFunc _ _ _ b => b
  | c => c
def opsC : Code → List Oper
  | .region _ ops _ => ops.toList
  | _ => []
def hdO : List Oper → Oper
  | o :: _ => o
  | [] => default
def callC : Oper → Call
  | o => match o.op with | .call c => c | _ => default
theorem amap1 {e : AEnv} {i : Nat} {d : D} (h : amapG e [i] = [d]) : e.get i = d := by simpa [amapG] using h
theorem amap3 {e : AEnv} {i j k : Nat} {d d' d'' : D} (h : amapG e [i, j, k] = [d, d', d'']) : e.get i = d ∧ e.get j = d' ∧ e.get k = d'' := by simpa [amapG] using h
theorem okv64 {n : Int} (h1 : -9223372036854775808 ≤ n) (h2 : n ≤ 9223372036854775807) : Okv (.int .i64 n) := ⟨h1, h2⟩
theorem iter_of {P : Program} {g : FuncId} {fn : Func} {sz : Nat} {C0 C1 C2 : Code} {O3 : Array Oper} {pre post : List Oper} {oy : Oper} {cy : Call} {i0 i1 r3 : Nat}
    (hf : P.funcs[g]? = some fn) (hname : fn.name ≠ "runtime.NumGoroutine") (hres : fn.results = #[]) (hn : 18 < fn.ntmps)
    (hb : fn.body = some (.seq C0 (.block i0 (.loop (.seq (.seq C1 (.cond (.tmp 8) .skip (.exit i0))) (.seq (.block i1 (.seq (.region r3 O3 false) (.cond (.tmp 18) .ret .skip))) C2))))))
    (hO : O3.toList = pre ++ oy :: post) (hg : oy.guard = none) (hop : oy.op = .call cy) (hcal : cy.callee = .value (.tmp 11)) (hargs : cy.args = #[.tmp 12, .tmp 16]) (hdst : oy.dst = some 17)
    (hl0 : (ltB fn.ntmps (dsts C0) && (ltB fn.ntmps (dsts C1) && (ltB fn.ntmps (dsts C2) && (ltB fn.ntmps (dstsO pre) && ltB fn.ntmps (dstsO post))))) = true)
    (ha0 : (apartL [0, 1] (dsts C0) && (apartL [0, 1, 3] (dsts C1) && (apartL [0, 1] (dsts C2) && (apartL [0, 1, 3] (dstsO pre) && apartL [0, 1, 3] (dstsO post))))) = true)
    (h0 : ∀ (y : Value) (b : Nat) (l : List (List D)) (L : List Bx) (i : Nat) (k : List D → List Bx → Prop), L[i]? = some (Bx.mk b [.row sz l] .box) → l.length ≤ 9223372036854775807 → k [.i ((l.length : Int) - 1)] L →
      aexI P C0 (envV [0, 1] [.val y, .p b 0]) L fun e L' => k (amapG e [3]) L')
    (h1 : ∀ (j : Int) (L : List Bx) (k : List D → List Bx → Prop), k [.b (decide (j ≥ 0))] L → aexI P C1 (envV [3] [.i j]) L fun e L' => k (amapG e [8]) L')
    (hpre : ∀ (y : Value) (b : Nat) (l : List (List D)) (L : List Bx) (i j : Nat) (k : List D → List Bx → Prop), L[i]? = some (Bx.mk b [.row sz l] .box) → ∀ hj : j < l.length, l[j].length = sz → k [.val y, .i (j : Int), .agg l[j]] L →
      aopsI P pre (envV [0, 1, 3] [.val y, .p b 0, .i (j : Int)]) L fun e L' => k (amapG e [11, 12, 16]) L')
    (hpost : ∀ (c : Bool) (L : List Bx) (k : List D → List Bx → Prop), k [.b (!c)] L → aopsI P post (envV [17] [.b c]) L fun e L' => k (amapG e [18]) L')
    (h2 : ∀ (j : Int) (L : List Bx) (k : List D → List Bx → Prop), 0 ≤ j → j ≤ 9223372036854775807 → k [.i (j - 1)] L → aexI P C2 (envV [3] [.i j]) L fun e L' => k (amapG e [3]) L')
    : Iter P g sz := by
  simp only [Bool.and_eq_true] at hl0 ha0
  obtain ⟨l0, l1, l2, l3, l4⟩ := hl0
  obtain ⟨p0, p1, p2, p3, p4⟩ := ha0
  have l0 := ltB_spec _ l0
  have l1 := ltB_spec _ l1
  have l2 := ltB_spec _ l2
  have l3 := ltB_spec _ l3
  have l4 := ltB_spec _ l4
  have p0 := apartL_ok p0
  have p1 := apartL_ok p1
  have p2 := apartL_ok p2
  have p3 := apartL_ok p3
  have p4 := apartL_ok p4
  refine ⟨⟨fn, hf, by simp [hb], hname⟩, ?_⟩
  intro lp b l J hll hlsz hJb hJe hY F L w hJ0 q
  refine callsIn_of_wp (F := Fence.wide) hf hb trivial ?_ rfl
  have hn2 : ∀ i < fn.ntmps, i < ((#[.func (.yield lp) #[] #[], .pointer (some ⟨b, 0, none⟩)] : Array Value) ++ Array.replicate (fn.ntmps - 2) undef).size := fun i hi => by simp; omega
  generalize ha : ({ tmps := (#[.func (.yield lp) #[] #[], .pointer (some ⟨b, 0, none⟩)] : Array Value) ++ Array.replicate (fn.ntmps - #[Value.func (.yield lp) #[] #[], .pointer (some ⟨b, 0, none⟩)].size) undef, defers := [] } : Act) = a
  have as : a.tmps.size = fn.ntmps := by rw [← ha]; simp; omega
  have a0 : a.tmps.getD 0 undef = .func (.yield lp) #[] #[] := by
    rw [← ha]
    simp only [Array.getD_eq_getD_getElem?]
    rw [Array.getElem?_append_left (by simp)]
    rfl
  have a1 : a.tmps.getD 1 undef = .pointer (some ⟨b, 0, none⟩) := by
    rw [← ha]
    simp only [Array.getD_eq_getD_getElem?]
    rw [Array.getElem?_append_left (by simp)]
    rfl
  have ad : a.defers = [] := by rw [← ha]
  clear ha hn2
  have yok : ∀ (F : Nat → Prop) (w : World), Rep F w (.val (.func (.yield lp) #[] #[])) (.func (.yield lp) #[] #[]) := fun F w => rep_val trivial
  have pok : ∀ (F : Nat → Prop) (w : World), Rep F w (.p b 0) (.pointer (some ⟨b, 0, none⟩)) := fun F w => rep_val trivial
  obtain ⟨aw0, i00, hi00⟩ := hJb 0 F L w hJ0
  have ag0 : AAgree F w fn.ntmps (envV [0, 1] [.val (.func (.yield lp) #[] #[]), .p b 0]) a := by
    refine envV_agree ?_ as ad
    show Reps F w _ [a.tmps.getD 0 undef, a.tmps.getD 1 undef]
    rw [a0, a1]
    exact reps_cons (yok F w) (reps_cons (pok F w) reps_nil)
  refine wpIn_seq (aexI_sound (.inl rfl) C0 _ L F w a _ _ (h0 _ b l L i00 (fun ds L' => ds = [.i ((l.length : Int) - 1)] ∧ L' = L) hi00 hll ⟨rfl, rfl⟩) aw0 ag0 l0 ?_)
  rintro e0 L0 F1 a2 w1 ⟨hk1, rfl⟩ ev1 aw1 ag1 ad1 as1
  have hJ1 := hJe 0 F L0 w F1 w1 hJ0 ev1 aw1
  have hk1 := amap1 hk1
  have b0 : a2.tmps.getD 0 undef = .func (.yield lp) #[] #[] := (as1 0 (p0 0 (by simp))).trans a0
  have b1 : a2.tmps.getD 1 undef = .pointer (some ⟨b, 0, none⟩) := (as1 1 (p0 1 (by simp))).trans a1
  have b3 : a2.tmps.getD 3 undef = .int .i64 ((l.length : Int) - 1) := by
    have := ag1.tmp 3
    rw [hk1] at this
    exact (rep_val_iff.1 this).1
  refine wpIn_block (wpIn_loop (fun a w => ∃ k F' L', k ≤ l.length ∧ J k F' L' w ∧ a.tmps.size = fn.ntmps ∧ a.defers = [] ∧ a.tmps.getD 0 undef = .func (.yield lp) #[] #[] ∧ a.tmps.getD 1 undef = .pointer (some ⟨b, 0, none⟩) ∧ a.tmps.getD 3 undef = .int .i64 ((l.length : Int) - 1 - k))
    (fun a _ => match a.tmps.getD 3 undef with | .int _ j => (j + 1).toNat | _ => 0) ⟨0, F1, L0, Nat.zero_le _, hJ1, ag1.size, ad1.trans ad, b0, b1, by simpa using b3⟩ ?_)
  rintro c wc ⟨k, Fk, Lk, hk, hJk, cs, cd, c0, c1, c3⟩
  obtain ⟨awk, ik, hik⟩ := hJb k Fk Lk wc hJk
  have agk : AAgree Fk wc fn.ntmps (envV [3] [.i ((l.length : Int) - 1 - k)]) c := by
    refine envV_agree ?_ cs cd
    show Reps Fk wc _ [c.tmps.getD 3 undef]
    rw [c3]
    exact reps_cons (rep_val (okv64 (by omega) (by omega))) reps_nil
  refine wpIn_seq (wpIn_seq (aexI_sound (.inl rfl) C1 _ Lk Fk wc c _ _ (h1 _ Lk (fun ds L' => ds = [.b (decide ((l.length : Int) - 1 - k ≥ 0))] ∧ L' = Lk) ⟨rfl, rfl⟩) awk agk l1 ?_))
  rintro e1 L1 F2 d w2 ⟨hd8, rfl⟩ ev2 aw2 ag2 dd ds
  have hJ2 := hJe k Fk L1 wc F2 w2 hJk ev2 aw2
  have hd8 := amap1 hd8
  have d0 := (ds 0 (p1 0 (by simp))).trans c0
  have d1 := (ds 1 (p1 1 (by simp))).trans c1
  have d3 := (ds 3 (p1 3 (by simp))).trans c3
  have d8 : d.tmps.getD 8 undef = .bool (decide ((l.length : Int) - 1 - k ≥ 0)) := by
    have := ag2.tmp 8
    rw [hd8] at this
    exact (rep_val_iff.1 this).1
  refine wpIn_cond_split (t := decide ((l.length : Int) - 1 - k ≥ 0)) d8 (fun ht => ?_) (fun ht => ?_)
  · -- a round
    have hkl : k < l.length := by have := of_decide_eq_true ht; omega
    refine wpIn_skip ?_
    obtain ⟨awk2, ik2, hik2⟩ := hJb k F2 L1 w2 hJ2
    have hj : ((l.length - 1 - k : Nat) : Int) = (l.length : Int) - 1 - k := by omega
    refine wpIn_seq (wpIn_block (wpIn_seq (wpIn_region_list ?_)))
    rw [hO]
    have ag3 : AAgree F2 w2 fn.ntmps (envV [0, 1, 3] [.val (.func (.yield lp) #[] #[]), .p b 0, .i ((l.length - 1 - k : Nat) : Int)]) d := by
      refine envV_agree ?_ ag2.size (dd.trans cd)
      show Reps F2 w2 _ [d.tmps.getD 0 undef, d.tmps.getD 1 undef, d.tmps.getD 3 undef]
      rw [d0, d1, d3, hj]
      exact reps_cons (yok _ _) (reps_cons (pok _ _) (reps_cons (rep_val (okv64 (by omega) (by omega))) reps_nil))
    refine aopsI_list (.inl rfl) pre _ L1 F2 w2 d _ (hpre _ b l L1 ik2 (l.length - 1 - k) (fun ds L' => ds = [.val (.func (.yield lp) #[] #[]), .i ((l.length - 1 - k : Nat) : Int), .agg (l[l.length - 1 - k]'(by omega))] ∧ L' = L1) hik2 (by omega) (hlsz _ (List.getElem_mem _)) ⟨rfl, rfl⟩) aw2 ag3 l3 ?_
    rintro e3 L3 F3 f w3 ⟨hf3, rfl⟩ ev3 aw3 ag4 fd fs
    have hJ3 := hJe k F2 L3 w2 F3 w3 hJ2 ev3 aw3
    obtain ⟨f11, f12, f16⟩ := amap3 hf3
    have g11 : f.tmps.getD 11 undef = .func (.yield lp) #[] #[] := by
      have := ag4.tmp 11
      rw [f11] at this
      exact (rep_val_iff.1 this).1
    have g0 := (fs 0 (p3 0 (by simp))).trans d0
    have g1 := (fs 1 (p3 1 (by simp))).trans d1
    have g3 := (fs 3 (p3 3 (by simp))).trans d3
    have r12 := ag4.tmp 12
    have r16 := ag4.tmp 16
    rw [f12] at r12
    rw [f16] at r16
    obtain ⟨fy, ty, sy, by', hy, hR⟩ := hY k F3 L3 w3 hkl hJ3 [f.tmps.getD 12 undef, f.tmps.getD 16 undef] (reps_cons r12 (reps_cons r16 reps_nil))
    unfold wpListIn
    rw [if_pos (by simp [Region.wanted, hg])]
    refine ⟨fun _ _ => trivial, ?_⟩
    have he : (oy.semAt Fence.wide.round f.eval).run P w3 = .ok (.round lp fy ty sy by') w3 := by
      rw [show oy.semAt Fence.wide.round f.eval = execOp f.eval oy from rfl]
      have e11 : f.eval (.tmp 11) = .func (.yield lp) #[] #[] := g11
      have e12 : f.eval (.tmp 12) = f.tmps.getD 12 undef := rfl
      have e16 : f.eval (.tmp 16) = f.tmps.getD 16 undef := rfl
      unfold execOp
      simp only [hop]
      simp [resolve, hcal, hargs, Deferred.ofValue, e11, e12, e16, invoke]
      simp only [Array.getD_eq_getD_getElem?] at hy
      exact hy
    rw [he]
    refine ⟨fun h => (by cases h), (hR _).mono ?_⟩
    rintro e w4 ⟨rfl, F4, L4, hJ4⟩
    show wpListIn _ _ _ _ _ post (f.put oy.dst (.bool true)) w4
    rw [hdst]
    obtain ⟨aw4, _⟩ := hJb (k + 1) F4 L4 w4 hJ4
    have h17 : 17 < f.tmps.size := by rw [ag4.size]; omega
    have pg : ∀ i, i ≠ 17 → (f.put (some 17) (.bool true)).tmps.getD i undef = f.tmps.getD i undef := fun i hi => by rw [put_get f fn.ntmps ag4.size 17 (by omega), if_neg hi]
    have pg17 : (f.put (some 17) (.bool true)).tmps.getD 17 undef = .bool true := by rw [put_get f fn.ntmps ag4.size 17 (by omega), if_pos rfl]
    have fdd : (f.put (some 17) (.bool true)).defers = [] := fd.trans (dd.trans cd)
    have fss : (f.put (some 17) (.bool true)).tmps.size = fn.ntmps := by simp [Act.put, ag4.size]
    have ag5 : AAgree F4 w4 fn.ntmps (envV [17] [.b true]) (f.put (some 17) (.bool true)) := by
      refine envV_agree ?_ fss fdd
      show Reps F4 w4 _ [(f.put (some 17) (.bool true)).tmps.getD 17 undef]
      rw [pg17]
      exact reps_cons (rep_val trivial) reps_nil
    rw [← List.append_nil post]
    refine aopsI_list (.inl rfl) post _ L4 F4 w4 _ _ (hpost true L4 (fun ds L' => ds = [.b (!true)] ∧ L' = L4) ⟨rfl, rfl⟩) aw4 ag5 l4 ?_
    rintro e5 L5 F5 h w5 ⟨hh, rfl⟩ ev5 aw5 ag6 hd5 hs5
    have hJ5 := hJe (k + 1) F4 L5 w4 F5 w5 hJ4 ev5 aw5
    have hh := amap1 hh
    have x0 := ((hs5 0 (p4 0 (by simp))).trans (pg 0 (by omega))).trans g0
    have x1 := ((hs5 1 (p4 1 (by simp))).trans (pg 1 (by omega))).trans g1
    have x3 := ((hs5 3 (p4 3 (by simp))).trans (pg 3 (by omega))).trans g3
    have x18 : h.tmps.getD 18 undef = .bool false := by
      have := ag6.tmp 18
      rw [hh] at this
      exact (rep_val_iff.1 this).1
    refine wpListIn_nil ?_
    refine wpIn_cond_false x18 (wpIn_skip ?_)
    obtain ⟨aw6, _⟩ := hJb (k + 1) F5 L5 w5 hJ5
    have ag7 : AAgree F5 w5 fn.ntmps (envV [3] [.i ((l.length : Int) - 1 - k)]) h := by
      refine envV_agree ?_ ag6.size (hd5.trans fdd)
      show Reps F5 w5 _ [h.tmps.getD 3 undef]
      rw [x3]
      exact reps_cons (rep_val (okv64 (by omega) (by omega))) reps_nil
    show C2.wpIn _ _ _ _ h w5
    refine aexI_sound (.inl rfl) C2 _ L5 F5 w5 h _ _ (h2 _ L5 (fun ds L' => ds = [.i ((l.length : Int) - 1 - k - 1)] ∧ L' = L5) (by omega) (by omega) ⟨rfl, rfl⟩) aw6 ag7 l2 ?_
    rintro e6 L6 F6 u w6 ⟨hu, rfl⟩ ev6 aw7 ag8 ud us
    have hJ6 := hJe (k + 1) F5 L6 w5 F6 w6 hJ5 ev6 aw7
    have hu := amap1 hu
    have u3 : u.tmps.getD 3 undef = .int .i64 ((l.length : Int) - 1 - k - 1) := by
      have := ag8.tmp 3
      rw [hu] at this
      exact (rep_val_iff.1 this).1
    refine ⟨⟨k + 1, F6, L6, hkl, hJ6, ag8.size, ud.trans (hd5.trans fdd), (us 0 (p2 0 (by simp))).trans x0, (us 1 (p2 1 (by simp))).trans x1, by rw [u3]; congr 1; omega⟩, ?_⟩
    rw [u3, c3]
    simp only
    omega
  · -- the end
    have hkl : k = l.length := by have := of_decide_eq_false ht; omega
    subst hkl
    refine wpIn_exit ?_
    show Exit.inBlock i0 _ (.exit i0) d w2
    unfold Exit.inBlock
    simp only [if_true]
    have hr : (results fn d.tmps).run P w2 = .ok (.tuple #[]) w2 := by
      rw [results_eq, hres]
      simp
    exact ⟨dd.trans cd, _, hr, ⟨_, rfl⟩, F2, L1, hJ2⟩
end Go.V
namespace Go.V
open Go
theorem Gl.cel {ds : List D} {L : List Bx} (i : Nat) {b : Nat} {l : List D} (hi : L[i]? = some (Bx.mk b l .box)) : Gl ds L ds (L.set i ⟨b, l, .cel⟩) := by
  intro F w vs a hr
  obtain ⟨h1, h2⟩ := a.swap (w' := w) (y := ⟨b, l, .cel⟩) hi (Nat.le_refl _) ⟨rfl, rfl, rfl, Nat.le_refl _⟩ (fun _ _ _ => rfl) (.inl rfl) (by
    obtain ⟨c, t, vs, q1, q2, q3, _⟩ := (a.at hi).row fun es h => (by cases h)
    exact ⟨.inr ⟨c, t, vs, q1, q2, q3, trivial⟩⟩)
  exact ⟨F, h2, h1, hr⟩
end Go.V
