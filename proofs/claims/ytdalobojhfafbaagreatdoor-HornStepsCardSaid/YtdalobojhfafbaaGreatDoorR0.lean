/- From a contract to a law's row: what an argument reads as; the call's end. -/
import Derived.Test.YtdalobojhfafbaaGreatDoorT1
import Derived.Test.YtdalobojhfafbaaGreatDoorT3
import Derived.Carry
import Derived.ChangeSame
import Derived.ChangeArms
set_option linter.unusedVariables false
namespace Go.V
open Go Go.RowKit Go.WideShapes Go.ChangeShapes
section
variable {H : Type} {enc : TypeId × Value → H} {P : Program} {W W' : World} {F' : Nat → Prop} {L' : List Bx}
def oldB (W : World) : Nat → Prop := fun b => b < W.heap.size
theorem aw_old (W : World) : AW (oldB W) [] W := ⟨fun x hx => (by cases hx), List.nodup_nil, fun x hx => (by cases hx), fun _ h => h⟩
theorem Ev.below (e : Ev (oldB W) [] W F' L' W') : Below W.heap.size W W' := ⟨e.os, e.tape, e.output, e.size, fun k hk => e.block k hk fun x hx => by cases hx⟩
theorem calls_of_afn {g : FuncId} {args : List D} {vs : List Value} {b : Bool} (hen : Enters P g) (h : AFn P g args [] (.ret (.b b))) (hr : Reps (oldB W) W args vs) :
    Calls P g vs.toArray W fun e w' => e = .returned (.bool b) ∧ Below W.heap.size W w' := by
  refine ((h (oldB W) W vs (aw_old W) hr).calls hen).mono ?_
  rintro e w' ⟨ae, F', L', h1, h2, h3, rfl, rfl⟩
  obtain ⟨v, rfl, h4⟩ := h3
  have h5 := (rep_val_iff.1 h4).1
  subst h5
  exact ⟨rfl, h1.below⟩
theorem trodAll_stays (hl : laidOutB P = true) {sp : Nat → Bool} : ∀ {ts : List TypeId} {vs : List Value} {ds : List (DataW H)} {ps : List MemPlace}, (∀ t ∈ ts, P.readableRec t = true ∧ t < P.types.size) →
    DataW.TrodAll enc P W 0 (fun _ => true) true ts vs ds ps → (∀ p ∈ ps, W.sameAt W' p) → (∀ p ∈ ps, sp p.block = true) → DataW.TrodAll enc P W' 0 sp true ts vs ds ps
  | [], [], [], ps, _, h, _, _ => h
  | t :: ts, v :: vs, d :: ds, ps, hr, h, h1, h2 => by
    obtain ⟨p, q, h3, h4, rfl⟩ := h
    refine ⟨p, q, WideElems.Trod_stays hl (hr t (by simp)).1 (hr t (by simp)).2 h3 (fun x hx => h1 x (by simp [hx])) (fun x hx => h2 x (by simp [hx])), ?_, rfl⟩
    exact trodAll_stays hl (fun t ht => hr t (by simp [ht])) h4 (fun x hx => h1 x (by simp [hx])) (fun x hx => h2 x (by simp [hx]))
  | [], _ :: _, _, _, _, h, _, _ => h.elim
  | [], [], _ :: _, _, _, h, _, _ => h.elim
  | _ :: _, [], _, _, _, h, _, _ => h.elim
  | _ :: _, _ :: _, [], _, _, h, _, _ => h.elim
theorem law_post {f : Func} {s : ChangeSpec} {apart fresh handsOn again : Bool} {args : Array Value} {ds gs : List (DataW H)} {before : List MemPlace} {tb : TypeId}
    (hl : laidOutB P = true) (hr : ∀ t ∈ f.params.toList, P.readableRec t = true ∧ t < P.types.size) (hv : s.vars = []) (htr : f.resultTypes = #[tb]) (htb : P.underlying tb = some .bool)
    (hW : DataW.Whole enc P f.params.toList s.vars apart W args.toList ds gs before) (hs : s.fn H (ds ++ gs) = { results := [.lit (.bool true)], args := ds }) (hb : Below W.heap.size W W') :
    s.post enc P f apart fresh handsOn again W args (.bool true) W' := by
  have hlt : ∀ p ∈ before, p.block < W.heap.size := fun p hp => hW.lt p hp
  have hsame : ∀ p ∈ before, W.sameAt W' p := fun p hp => hb.same (hlt p hp)
  have hW0 := hW
  obtain ⟨p, q, h1, h2, h3, h4, h5⟩ := hW
  rw [hv] at h2
  obtain ⟨rfl, rfl⟩ := trodVars_none h2
  rw [List.append_nil] at h3
  subst h3
  have hargs : ∀ sp : Nat → Bool, (∀ x ∈ before, sp x.block = true) → DataW.TrodAll enc P W' 0 sp true f.params.toList args.toList ds before := fun sp hsp => trodAll_stays hl hr h1 hsame hsp
  have hres : ∀ (b : Nat) (sp : Nat → Bool) (hd : Bool), DataW.TrodAll enc P W' b sp hd f.resultTypes.toList ((Value.bool true).resultList f.resultTypes.size) [.lit (.bool true)] [] := by
    intro b sp hd
    rw [htr]
    exact trodAll_mk1 (shut_bool htb true)
  have hold : ∀ x ∈ before, (fun b => decide (b < W.heap.size)) x.block = true := fun x hx => by simpa using hlt x hx
  refine ⟨ds, [], before, [], before, [], hW0, ?_, ?_, ?_, World.keptBut_mono (fun p hp => ⟨hp, .inr (.inl hp)⟩) (hb.frame (· ∈ before)), fun _ => ⟨ok_one htr rfl (okWide_bool_mk htb true), ?_⟩⟩
  · rw [hs]; exact hres _ _ _
  · rw [hs]; exact hargs _ hold
  · rw [hv, hs]; rfl
  · refine ⟨.lit (.bool true) :: ds, [], before, ⟨before, [], ?_, by rw [hv]; rfl, by simp, fun b o hp => by rw [hb.frozen (hlt _ hp)]; exact h4 b o hp, h5⟩, fun x hx _ => hx⟩
    have := trodAll_append (hargs _ fun _ _ => rfl) (hres 0 (fun _ => true) true)
    simpa using this
end
section
variable {H : Type} {enc : TypeId × Value → H} {P : Program} {W : World} {sp : Nat → Bool} {held : Bool}
theorem cells_of_cells? {a : Addr} {n : Nat} {cs : List Value} (h : W.cells? 0 a n = some cs) : cs.length = n ∧ Cells W a cs ∧ (0 < n → a.spot = none ∧ a.block < W.heap.size) := by
  unfold World.cells? at h
  rw [if_pos (Nat.zero_le _)] at h
  have hl := mapM_some_length h
  have hg : ∀ i, i < n → W.cell? (a.add i) = cs[i]? := fun i hi => mapM_some_get h i i (List.getElem?_range hi)
  refine ⟨by simpa using hl, fun i hi => ?_, fun hn => ?_⟩
  · have := hg i (by simpa [hl] using hi)
    rw [this, List.getElem?_eq_getElem hi]
  · have h0 := hg 0 hn
    have hc : 0 < cs.length := by rw [hl]; simpa using hn
    rw [List.getElem?_eq_getElem hc] at h0
    unfold World.cell? at h0
    split at h0
    · next c t fz hb =>
      split at h0
      · cases h0
      · next hs =>
        have e : a.add 0 = a := by simp [Addr.add]
        rw [e] at hs hb
        exact ⟨by simpa using hs, (Array.getElem?_eq_some_iff.1 hb).1⟩
    · cases h0
theorem addr_add (b o n : Nat) : (Addr.mk b o none).add n = ⟨b, o + n, none⟩ := by
  unfold Addr.add
  split
  · next h => rw [h]; rfl
  · rfl
theorem rws_of {F : Nat → Prop} {w : World} {sz b : Nat} : ∀ (l : List (List D)) (o : Nat), (∀ (i : Nat) (h : i < l.length), ∃ vs, Reps F w l[i] vs ∧ vs.length = sz ∧ Cells w ⟨b, o + i * sz, none⟩ vs) → Rws F w sz l b o
  | [], _, _ => by rw [Rws]; trivial
  | d :: l, o, h => by
    rw [Rws]
    refine ⟨by have := h 0 (by simp); simpa using this, rws_of l (o + sz) fun i hi => ?_⟩
    have := h (i + 1) (by simpa using hi)
    rw [Nat.succ_mul, Nat.add_comm (i * sz) sz, ← Nat.add_assoc] at this
    exact this
theorem trod_row {Q : List D → Prop} {t e : TypeId} (ht : P.underlying t = some (.slice e)) {m : Nat} {cs : List Value} {x : DataW H × List MemPlace} (h : DataW.trod enc P W 0 sp held m t cs = some x)
    (he : ∀ (n : Nat), n < m → ∀ (cs : List Value) (x : DataW H × List MemPlace), DataW.trod enc P W 0 sp held n e cs = some x → ∃ d, Q d ∧ Reps (oldB W) W d cs) (hsz : 0 < P.cellsOf e) :
    ∃ l : List (List D), (∀ d ∈ l, Q d) ∧ Reps (oldB W) W [.row (P.cellsOf e) l] cs := by
  rcases DataW.trod_slice ht h with ⟨rfl, _⟩ | ⟨a, len, cap, elems, rest, n, rfl, rfl, _, _, h2, h3, h4, h5, _, _⟩
  · refine ⟨[], fun d hd => (by cases hd), reps_cons ?_ reps_nil⟩
    rw [Rep]
    exact ⟨none, 0, rfl, ⟨Nat.le_refl _, by decide⟩, .inl rfl⟩
  · have key : ∀ i, i < len → ∃ d cs, Q d ∧ Reps (oldB W) W d cs ∧ cs.length = P.cellsOf e ∧ Cells W (a.add (i * P.cellsOf e)) cs ∧ (i = 0 → a.spot = none ∧ a.block < W.heap.size) := by
      intro i hi
      have h6 := h5 i hi
      rw [List.getElem?_eq_getElem (by omega)] at h6
      obtain ⟨cs, h7, h8⟩ := Option.bind_eq_some_iff.1 h6
      obtain ⟨d, hq, hr⟩ := he n (Nat.lt_succ_self _) cs _ h8
      obtain ⟨q1, q2, q3⟩ := cells_of_cells? h7
      exact ⟨d, cs, hq, hr, q1, q2, fun h => by subst h; have := q3 hsz; rw [Nat.zero_mul, show a.add 0 = a by simp [Addr.add]] at this; exact this⟩
    refine ⟨(List.range len).attach.map fun i => (key i.1 (by simpa using i.2)).choose, ?_, reps_cons ?_ reps_nil⟩
    · intro d hd
      obtain ⟨i, _, rfl⟩ := List.mem_map.1 hd
      exact (key i.1 (by simpa using i.2)).choose_spec.choose_spec.1
    · rw [Rep]
      have hlen : ((List.range len).attach.map fun i => (key i.1 (by simpa using i.2)).choose).length = len := by simp
      refine ⟨some a, cap, by rw [hlen], ⟨by rw [hlen]; exact h2, h3⟩, ?_⟩
      by_cases h0 : len = 0
      · subst h0; exact .inl rfl
      · obtain ⟨_, _, _, _, _, _, hsb⟩ := key 0 (by omega)
        obtain ⟨hs, hb⟩ := hsb rfl
        obtain ⟨b, o, s⟩ := a
        simp only at hs hb
        subst hs
        refine .inr ⟨b, o, rfl, hb, hb, rws_of _ _ fun i hi => ?_⟩
        rw [hlen] at hi
        have hk := (key i hi).choose_spec
        obtain ⟨cs, hq, hr, q1, q2, _⟩ := hk
        refine ⟨cs, ?_, q1, by rw [addr_add] at q2; exact q2⟩
        simpa using hr
def fieldsAre (fs : Array Field) (l : List (TypeId × Nat)) : Prop := fs.toList.map (fun f => (f.type, f.offset)) = l
theorem trod_field {t : TypeId} {fs : Array Field} {l : List (TypeId × Nat)} (ht : P.underlying t = some (.struct fs)) (hf : fieldsAre fs l) {m : Nat} {cs : List Value} {x : DataW H × List MemPlace}
    (h : DataW.trod enc P W 0 sp held m t cs = some x) : ∃ n, m = n + 1 ∧ cs.length = P.cellsOf t ∧ ∀ (i : Nat) (q : TypeId × Nat), l[i]? = some q → ∃ y, DataW.trod enc P W 0 sp held n q.1 ((cs.drop q.2).take (P.cellsOf q.1)) = some y := by
  obtain ⟨xs, n, rfl, _, hl, hx, hg⟩ := DataW.trod_struct ht h
  refine ⟨n, rfl, hl, fun i q hq => ?_⟩
  unfold fieldsAre at hf
  rw [← hf, List.getElem?_map, Option.map_eq_some_iff] at hq
  obtain ⟨f, hf1, rfl⟩ := hq
  have hf2 : fs[i]? = some f := by rw [← Array.getElem?_toList]; exact hf1
  have := hg i f hf2
  have hi : i < xs.length := by rw [hx]; exact (Array.getElem?_eq_some_iff.1 hf2).1
  exact ⟨xs[i], by rw [this, List.getElem?_eq_getElem hi]⟩
theorem trod_i {t : TypeId} (ht : P.underlying t = some (.int .i64)) {m : Nat} {cs : List Value} {x : DataW H × List MemPlace} (h : DataW.trod enc P W 0 sp held m t cs = some x) :
    ∃ n : Int, -9223372036854775808 ≤ n ∧ n ≤ 9223372036854775807 ∧ Reps (oldB W) W [.i n] cs := by
  obtain ⟨n, rfl, _, hw⟩ := DataW.trod_int ht h
  have : -9223372036854775808 ≤ n ∧ n ≤ 9223372036854775807 := by
    simpa [Lit.wf, IntKind.has, IntKind.min, IntKind.max, IntKind.signed, IntKind.bits] using hw
  exact ⟨n, this.1, this.2, reps_cons (rep_val (by simp only [Okv, loN, hiN]; omega)) reps_nil⟩
theorem trod_s {t : TypeId} (ht : P.underlying t = some .string) {m : Nat} {cs : List Value} {x : DataW H × List MemPlace} (h : DataW.trod enc P W 0 sp held m t cs = some x) :
    ∃ s : ByteArray, Reps (oldB W) W [.s s] cs := by
  obtain ⟨s, rfl, _, hw⟩ := DataW.trod_string ht h
  exact ⟨s, reps_cons (rep_val hw) reps_nil⟩
theorem trod_b {t : TypeId} (ht : P.underlying t = some .bool) {m : Nat} {cs : List Value} {x : DataW H × List MemPlace} (h : DataW.trod enc P W 0 sp held m t cs = some x) :
    ∃ b : Bool, Reps (oldB W) W [.b b] cs := by
  obtain ⟨b, rfl, _⟩ := DataW.trod_bool ht h
  exact ⟨b, reps_cons (rep_val trivial) reps_nil⟩
theorem tms_of : ∀ {l : List (List D)}, (∀ d ∈ l, ∃ t : Tm, d = t.cs) → ∃ a : List Tm, l = Tm.rows a
  | [], _ => ⟨[], Tm.rows_nil.symm⟩
  | d :: l, h => by
    obtain ⟨t, rfl⟩ := h d (by simp)
    obtain ⟨a, rfl⟩ := tms_of (l := l) fun x hx => h x (by simp [hx])
    exact ⟨t :: a, (Tm.rows_cons t a).symm⟩
theorem trod_tm {tT ti ts t64 tA : TypeId} {fs : Array Field} (hT : P.underlying tT = some (.struct fs)) (hf : fieldsAre fs [(ti, 0), (ts, 1), (t64, 2), (tA, 3)])
    (hi : P.underlying ti = some (.int .i64)) (hs : P.underlying ts = some .string) (h64 : P.underlying t64 = some (.int .i64)) (hA : P.underlying tA = some (.slice tT))
    (hc : P.cellsOf tT = 4) (hc1 : P.cellsOf ti = 1) (hc2 : P.cellsOf ts = 1) (hc3 : P.cellsOf t64 = 1) (hc4 : P.cellsOf tA = 1) :
    ∀ (m : Nat) (cs : List Value) (x : DataW H × List MemPlace), DataW.trod enc P W 0 sp held m tT cs = some x → ∃ t : Tm, Reps (oldB W) W t.cs cs := by
  intro m
  induction m using Nat.strongRecOn with
  | _ m ih =>
    intro cs x h
    obtain ⟨n, rfl, hl, hg⟩ := trod_field hT hf h
    rw [hc] at hl
    match cs, hl with
    | [c0, c1, c2, c3], _ =>
      obtain ⟨_, h0⟩ := hg 0 _ rfl
      obtain ⟨_, h1⟩ := hg 1 _ rfl
      obtain ⟨_, h2⟩ := hg 2 _ rfl
      obtain ⟨_, h3⟩ := hg 3 _ rfl
      rw [hc1] at h0; rw [hc2] at h1; rw [hc3] at h2; rw [hc4] at h3
      obtain ⟨op, _, _, r0⟩ := trod_i hi h0
      obtain ⟨nm, r1⟩ := trod_s hs h1
      obtain ⟨k, _, _, r2⟩ := trod_i h64 h2
      obtain ⟨l, hq, r3⟩ := trod_row (Q := fun d => ∃ t : Tm, d = t.cs) hA h3 (fun q hq cs x hx => by
        obtain ⟨t, ht⟩ := ih q (by omega) cs x hx
        exact ⟨t.cs, ⟨t, rfl⟩, ht⟩) (by rw [hc]; decide)
      obtain ⟨a, rfl⟩ := tms_of hq
      rw [hc] at r3
      refine ⟨.mk op nm k a, ?_⟩
      have := ((r0.append r1).append r2).append r3
      simpa [Tm.mk_d] using this
theorem rows_of {α : Type} {f : α → List D} : ∀ {l : List (List D)}, (∀ d ∈ l, ∃ t : α, d = f t) → ∃ a : List α, l = a.map f
  | [], _ => ⟨[], rfl⟩
  | d :: l, h => by
    obtain ⟨t, rfl⟩ := h d (by simp)
    obtain ⟨a, rfl⟩ := rows_of (l := l) fun x hx => h x (by simp [hx])
    exact ⟨t :: a, rfl⟩
end
end Go.V
