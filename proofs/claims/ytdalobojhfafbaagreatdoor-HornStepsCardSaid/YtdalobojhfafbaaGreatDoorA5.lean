/- What is said of one operation over data and own blocks is so in memory. -/
import Derived.Test.YtdalobojhfafbaaGreatDoorA2
import Derived.Test.YtdalobojhfafbaaGreatDoorV2
set_option linter.unusedVariables false
namespace Go.V
open Go

section
variable {F : Nat → Prop} {w w' : World} {L : List Bx} {P : Program}
theorem AW.nx (a : AW F L w) (x : Ext (fun _ => False) w w') : AW F L w' ∧ Ev F L w F L w' := by
  have old : ∀ k, k < w.heap.size → w'.heap[k]? = w.heap[k]? := fun k hk => x.block k hk fun h => h
  have ks : Keeps F w F w' := ⟨x.size, fun _ _ h => h, fun k hk _ => old k hk⟩
  refine ⟨⟨fun y hy => (a.own y hy).keep ks (old _ (a.own y hy).lt), a.nodup, a.sep, fun b hb => Nat.lt_of_lt_of_le (a.lt b hb) x.size⟩,
    ⟨x.os, x.tape, x.output, x.size, fun k hk _ => old k hk, fun _ h => h, fun _ _ h => .inl h, fun y hy _ => ⟨y, hy, rfl⟩, x.drawn⟩⟩
theorem AW.add (a : AW F L w) (x : Ext (fun _ => False) w w') {y : Bx} (hy : w.heap.size ≤ y.b) (oy : BxOk F w' y) : AW F (y :: L) w' ∧ Ev F L w F (y :: L) w' := by
  obtain ⟨a', e'⟩ := a.nx x
  refine ⟨⟨?_, ?_, ?_, a'.lt⟩, ⟨e'.os, e'.tape, e'.output, e'.size, e'.block, e'.grow, e'.old, ?_, e'.drawn⟩⟩
  · intro z hz
    rcases List.mem_cons.1 hz with rfl | hz
    · exact oy
    · exact a'.own z hz
  · simp only [List.map_cons, List.nodup_cons]
    refine ⟨fun hh => ?_, a.nodup⟩
    obtain ⟨z, hz, he⟩ := List.mem_map.1 hh
    have := (a.own z hz).lt
    omega
  · intro z hz hf
    rcases List.mem_cons.1 hz with rfl | hz
    · have := a.lt _ hf; omega
    · exact a.sep z hz hf
  · intro z hz hl
    rcases List.mem_cons.1 hz with rfl | hz
    · omega
    · exact ⟨z, hz, rfl⟩
theorem Rep.nx {d : D} {v : Value} (h : Rep F w d v) (x : Ext (fun _ => False) w w') : Rep F w' d v :=
  Rep.keep ⟨x.size, fun _ _ h => h, fun k hk _ => x.block k hk fun h => h⟩ d v h
theorem Reps.nx {d : List D} {v : List Value} (h : Reps F w d v) (x : Ext (fun _ => False) w w') : Reps F w' d v :=
  Reps.keep ⟨x.size, fun _ _ h => h, fun k hk _ => x.block k hk fun h => h⟩ d v h

variable {k : D → List Bx → Prop} {kc : Value → World → Prop}
def Cont (F : Nat → Prop) (L : List Bx) (w : World) (k : D → List Bx → Prop) (kc : Value → World → Prop) : Prop :=
  ∀ d L' v w' F', k d L' → Ev F L w F' L' w' → AW F' L' w' → Rep F' w' d v → kc v w'
theorem Cont.pure (hk : Cont F L w k kc) (a : AW F L w) : ∀ d r, k d L → Rep F w d r → kc r w := fun d r h hr => hk d L r w F h (Ev.refl ..) a hr

theorem abx_ok {t : TypeId} {l : List D} {vs : List Value} (h : abx l L k) (a : AW F L w) (hr : Reps F w l vs) (hk : Cont F L w k kc) : bx t vs w kc := by
  have := a.push (t := t) (kd := .box) hr [] trivial
  rw [List.append_nil] at this
  exact hk _ _ _ _ _ (h w.heap.size) this.2 this.1 (rep_val trivial)
theorem abxv_ok {t : TypeId} {d : D} {v : Value} (h : abxv d L k) (a : AW F L w) (hr : Rep F w d v) (hk : Cont F L w k kc) : bxv t v w kc := by
  unfold abxv at h
  split at h
  · rw [Rep] at hr
    obtain ⟨vs, rfl, hr⟩ := hr
    unfold bxv
    simpa using abx_ok h a hr hk
  · rw [Bool.cond_eq_ite] at h
    split at h
    · rename_i hd
      have h1 := rep_one hd hr
      have := abx_ok (t := t) h a (reps_cons hr reps_nil) hk
      unfold bxv
      split
      · cases h1
      · cases h1
      · exact this
    · exact h.elim
theorem setRow_keeps (w : World) (b : Nat) (c : Array Value) : (w.setRow b c).heap.size = w.heap.size ∧ (∀ k, k ≠ b → (w.setRow b c).heap[k]? = w.heap[k]?) :=
  ⟨by simp [World.setRow], fun k hn => by simp [World.setRow, Array.getElem?_modify, Ne.symm hn]⟩
theorem ast_ok {n : Nat} {p d : D} {pv v : Value} {kl : List Bx → Prop} {kw : World → Prop} (h : ast n p d L kl) (hn0 : 1 ≤ n) (a : AW F L w) (hp : Rep F w p pv) (hr : Rep F w d v)
    (hk : ∀ L' w', kl L' → Ev F L w F L' w' → AW F L' w' → kw w') : st n pv v w kw := by
  unfold ast at h
  split at h
  · rename_i b o
    obtain ⟨rfl, _⟩ := rep_val_iff.1 hp
    obtain ⟨i, l, kd, m, hi, hn, ho, hle, hm, hk'⟩ := h
    obtain ⟨r1, r2⟩ := rep_cl ho hr
    have hb := a.at hi
    obtain ⟨c, t, vs, h1, h2, h3, h4⟩ := hb.full (by show 0 < l.length; omega)
    simp only at h1 h2 h3 h4
    have hvl : vs.length = l.length := h2.length
    have hcs : v.cells.toList.length = n := by rw [r1.length]; exact hn
    have hlc : l.length ≤ c.size := by
      have := congrArg List.length h3
      simp at this
      omega
    refine ⟨by rw [← Array.length_toList]; exact hcs, r2, c, t, h1, by omega, ?_⟩
    obtain ⟨k1, k2⟩ := setRow_keeps w b (c.toList.take o ++ v.cells.toList ++ c.toList.drop (o + n)).toArray
    have hset := setRow_heap w b c (c.toList.take o ++ v.cells.toList ++ c.toList.drop (o + n)).toArray t (0, 0) h1
    have ks : Keeps F w F (w.setRow b (c.toList.take o ++ v.cells.toList ++ c.toList.drop (o + n)).toArray) :=
      ⟨by rw [k1]; exact Nat.le_refl _, fun _ _ h => h, fun k hk hf => k2 k fun e => a.sep _ (List.mem_of_getElem? hi) (e ▸ hf)⟩
    have hml : m.length = l.length := by rw [← hm]; simp; omega
    have oy : BxOk F (w.setRow b (c.toList.take o ++ v.cells.toList ++ c.toList.drop (o + n)).toArray) ⟨b, m, kd⟩ := by
      refine ⟨.inr ⟨_, t, vs.take o ++ v.cells.toList ++ vs.drop (o + n), hset, ?_, ?_, ?_⟩⟩
      · subst hm
        exact Reps.keep ks _ _ (((h2.take o).append r1).append (h2.drop _))
      · simp only [hml]
        rw [h3, List.take_append, List.take_append, List.take_take, List.take_take, List.drop_take]
        simp only [List.length_append, List.length_take, Array.length_toList, hcs]
        have e1 : min o l.length = o := by omega
        have e2 : min l.length o = o := by omega
        have e3 : min o c.size = o := by omega
        have e4 : v.cells.toList.take (l.length - o) = v.cells.toList := List.take_of_length_le (by omega)
        rw [e1, e2, e3, e4, Nat.sub_add_eq]
      · cases kd with
        | box => trivial
        | cel => trivial
        | map es => exact h4.elim
        | row e sz cap =>
          obtain ⟨q1, q2, q3, q4⟩ := h4
          refine ⟨q1, ?_, q3, by rw [hml]; exact q4⟩
          rw [← q2]
          simp only [List.size_toArray, List.length_append, List.length_take, List.length_drop, hcs, Array.length_toList]
          omega
    obtain ⟨a', e'⟩ := a.swap (y := ⟨b, m, kd⟩) (w' := w.setRow b (c.toList.take o ++ v.cells.toList ++ c.toList.drop (o + n)).toArray) hi (by rw [k1]; exact Nat.le_refl _) ⟨rfl, rfl, rfl, Nat.le_refl _⟩ (fun k _ hk => k2 k hk) (.inl rfl) oy
    exact hk _ _ hk' e' a'
  · exact h.elim
theorem ast0_ok {p d : D} {pv v : Value} {kl : List Bx → Prop} {kw : World → Prop} (h : ast0 p d L kl) (a : AW F L w) (hp : Rep F w p pv) (hr : Rep F w d v)
    (hk : ∀ L' w', kl L' → Ev F L w F L' w' → AW F L' w' → kw w') : st 0 pv v w kw := by
  unfold ast0 at h
  split at h
  case h_2 => exact h.elim
  rename_i b o
  obtain ⟨rfl, _⟩ := rep_val_iff.1 hp
  rw [Rep] at hr
  obtain ⟨vs, rfl, hr⟩ := hr
  rw [Reps] at hr
  subst hr
  obtain ⟨i, l, hi, ho, hk'⟩ := h
  obtain ⟨c, t, vs, h1, h2, h3, h4⟩ := (a.at hi).row (fun _ hh => by cases hh)
  simp only at h1 h2 h3 h4
  have hlc : l.length ≤ c.size := by
    have e1 := h2.length
    have e2 := congrArg List.length h3
    simp at e2
    omega
  refine ⟨rfl, fun u hu => (by cases hu), c, t, h1, by omega, ?_⟩
  have hc : (c.toList.take o ++ ((.agg #[] : Value).cells.toList) ++ c.toList.drop (o + 0)) = c.toList := by
    show c.toList.take o ++ [] ++ c.toList.drop o = c.toList
    rw [List.append_nil, List.take_append_drop]
  show kw (w.setRow b (c.toList.take o ++ ((.agg #[] : Value).cells.toList) ++ c.toList.drop (o + 0)).toArray)
  rw [hc]
  obtain ⟨k1, k2⟩ := setRow_keeps w b c.toList.toArray
  have hset := setRow_heap w b c c.toList.toArray t (0, 0) h1
  have ks : Keeps F w F (w.setRow b c.toList.toArray) :=
    ⟨by rw [k1]; exact Nat.le_refl _, fun _ _ h => h, fun k hk hf => k2 k fun e => a.sep _ (List.mem_of_getElem? hi) (e ▸ hf)⟩
  have oy : BxOk F (w.setRow b c.toList.toArray) ⟨b, l, .box⟩ := ⟨.inr ⟨_, t, vs, hset, Reps.keep ks _ _ h2, by simpa using h3, trivial⟩⟩
  obtain ⟨a', e'⟩ := a.swap (y := ⟨b, l, .box⟩) (w' := w.setRow b c.toList.toArray) hi (by rw [k1]; exact Nat.le_refl _) ⟨rfl, rfl, rfl, Nat.le_refl _⟩ (fun k _ hk => k2 k hk) (.inl rfl) oy
  have hL : L.set i ⟨b, l, .box⟩ = L := by
    apply List.ext_getElem?
    intro j
    rw [List.getElem?_set]
    split
    · rename_i hj
      subst hj
      rw [hi, if_pos (List.getElem?_eq_some_iff.1 hi).1]
    · rfl
  rw [hL] at a' e'
  exact hk _ _ hk' e' a'
theorem fillL_length : ∀ (qs : List (Nat × List Value)) (z : List Value), (∀ q ∈ qs, q.1 + q.2.length ≤ z.length) → (fillL z qs).length = z.length
  | [], z, _ => rfl
  | (o, l) :: r, z, h => by
    have h1 := h (o, l) (by simp)
    simp only at h1
    have e : (z.take o ++ l ++ z.drop (o + l.length)).length = z.length := by simp; omega
    rw [fillL, fillL_length r _ (fun q hq => by rw [e]; exact h q (by simp [hq])), e]
theorem parts_fit {t : TypeId} {n : Nat} {ρ : Operand → Value} : ∀ (ps : List (Nat × Operand)), fitsT P t n ps = true → sizes (partsT P t ρ ps) → ∀ q ∈ parts (partsT P t ρ ps), q.1 + q.2.length ≤ n
  | [], _, _, q, hq => by cases hq
  | (i, x) :: ps, h, hs, q, hq => by
    have h1 := fitsT_spec _ h
    simp only [partsT, sizes] at hs
    simp only [partsT, parts, List.map_cons, List.mem_cons] at hq
    rcases hq with rfl | hq
    · have := (h1 (i, x) (by simp)).1
      simp only [Array.length_toList, hs.1]
      exact this
    · refine parts_fit ps ?_ hs.2 q hq
      simp only [fitsT, Bool.cond_eq_ite] at h
      split at h
      · exact h
      · cases h
theorem abldF_ok {sz n : Nat} {z : List Value} {t e : TypeId} {ps : List (Nat × Operand)} {ρ : Operand → D} {ρc : Operand → Value} {kd : D → Prop} (h : abldF sz n (vals z) (apartsT P t ρ ps) kd) (a : AW F L w)
    (hr : ∀ p ∈ ps, Rep F w (ρ p.2) (ρc p.2)) (hz : ∀ v ∈ z, Okv v) (hzl : z.length = n * sz) (hf : fitsT P t (n * sz) ps = true) (hb : n ≤ 9223372036854775807)
    (hk : Cont F L w (fun d L' => L' = L ∧ kd d) kc) : bldS e n z (partsT P t ρc ps) w kc := by
  obtain ⟨hs, l, hl, hk'⟩ := h
  have hp := pts_of (P := P) (t := t) hr
  obtain ⟨h1, h2, h3⟩ := hp.ok hs
  have hR := afill_ok (reps_vals hz) h2 h3
  refine ⟨h1, ?_⟩
  obtain ⟨a', e'⟩ := a.lay (.cells (fillL z (parts (partsT P t ρc ps))).toArray e)
  refine hk _ _ _ _ _ ⟨rfl, hk'⟩ e' a' ?_
  have hR' := Reps.keep (e'.keeps a) _ _ hR
  have hlen := fillL_length _ z (fun q hq => by rw [hzl]; exact parts_fit ps hf h1 q hq)
  have hnew : (w.alloc (.cells (fillL z (parts (partsT P t ρc ps))).toArray e)).heap[w.heap.size]? = some (.cells (fillL z (parts (partsT P t ρc ps))).toArray e (0, 0)) := by
    show (w.heap.push _)[w.heap.size]? = _
    rw [Array.getElem?_push, if_pos rfl]
  have hc := cells_of hnew 0 (fillL z (parts (partsT P t ρc ps))).length
  simp only [List.drop_zero, List.take_length] at hc
  rw [Rep]
  refine ⟨_, n, by rw [← hl, chunk_length], ⟨by rw [← hl, chunk_length]; exact Nat.le_refl _, hb⟩, .inr ⟨w.heap.size, 0, rfl, .inr rfl, by simp, ?_⟩⟩
  rw [← hl]
  exact rws_chunk n hR' hc (by rw [hlen, hzl]; exact Nat.le_refl _)
theorem abldS_ok {sz n : Nat} {z : List Value} {t e : TypeId} {ps : List (Nat × Operand)} {ρ : Operand → D} {ρc : Operand → Value} (h : abldS e sz n (vals z) (apartsT P t ρ ps) L k) (a : AW F L w)
    (hr : ∀ p ∈ ps, Rep F w (ρ p.2) (ρc p.2)) (hz : ∀ v ∈ z, Okv v) (hzl : z.length = n * sz) (hf : fitsT P t (n * sz) ps = true) (hb : n ≤ 9223372036854775807)
    (hk : Cont F L w k kc) : bldS e n z (partsT P t ρc ps) w kc := by
  rcases h with h | ⟨hs, l, hl, hk'⟩
  · exact abldF_ok h a hr hz hzl hf hb fun d L' v w' F' h1 h2 h3 h4 => hk d L' v w' F' (by rw [h1.1]; exact h1.2) h2 h3 h4
  · have hp := pts_of (P := P) (t := t) hr
    obtain ⟨h1, h2, h3⟩ := hp.ok hs
    have hR := afill_ok (reps_vals hz) h2 h3
    refine ⟨h1, ?_⟩
    have hlen := fillL_length _ z (fun q hq => by rw [hzl]; exact parts_fit ps hf h1 q hq)
    have hll : l.length = n * sz := by rw [← hl, ← hR.length, hlen, hzl]
    rw [hl] at hR
    obtain ⟨a', e'⟩ := a.push (t := e) (kd := .row e sz n) hR [] ⟨rfl, by simp [hlen, hzl], hb, n, hll⟩
    rw [List.append_nil] at a' e'
    exact hk _ _ _ _ _ (hk' w.heap.size) e' a' (rep_val ⟨Nat.le_refl _, hb⟩)
theorem asrc_ok {sz m : Nat} {x : D} {v : Value} {ys : List D} (h : asrc sz x L m ys) (a : AW F L w) (hx : Rep F w x v) :
    ∃ us, Reps F w ys us ∧ us.length = m * sz ∧ SrcV w v m us := by
  unfold asrc at h
  split at h
  · obtain ⟨rfl, rfl, rfl⟩ := h
    rw [Rep] at hx
    obtain ⟨p, c, rfl, hc, rfl | ⟨b, o, rfl, hf, hb, hr⟩⟩ := hx
    · refine ⟨[], reps_nil, by simp, rfl, ?_⟩
      cases p with
      | none => exact ⟨rfl, rfl⟩
      | some p => intro i hi; simp at hi
    · obtain ⟨vs, h1, h2, h3⟩ := hr.flat
      exact ⟨vs, h1, h2, rfl, h3⟩
  · obtain ⟨rfl, rfl, rfl⟩ := h
    obtain ⟨rfl, _⟩ := rep_val_iff.1 hx
    exact ⟨[], reps_nil, by simp, rfl, rfl, rfl⟩
  · rename_i b o n c
    obtain ⟨rfl, i, l, kd, hi, hy, hl⟩ := h
    obtain ⟨rfl, _⟩ := rep_val_iff.1 hx
    by_cases h0 : n * sz = 0
    · have : ys = [] := List.eq_nil_of_length_eq_zero (by rw [hl, h0])
      subst this
      exact ⟨[], reps_nil, by simp [h0], rfl, fun i hi => by simp at hi⟩
    · have hle : o + n * sz ≤ l.length := by
        have := congrArg List.length hy
        simp only [List.length_take, List.length_drop, hl] at this
        omega
      obtain ⟨vs, h1, h2, h3⟩ := (a.at hi).cells o (n * sz) hle
      simp only at h1 h3
      rw [hy] at h1
      exact ⟨vs, h1, h2, rfl, h3⟩
  · exact h.elim
theorem aapp_ok {e : TypeId} {sz bytes : Nat} {s x : D} {vs v : Value} (h : aapp e sz bytes s x L k) (a : AW F L w) (hs : Rep F w s vs) (hx : Rep F w x v) (hk : Cont F L w k kc) : app e sz bytes vs v w kc := by
  obtain ⟨m, ys, h1, h2, h3⟩ := h
  obtain ⟨us, hu, hl, hm⟩ := asrc_ok h1 a hx
  have ho := reps_one h2 hu
  split at h3
  · obtain ⟨rfl, _⟩ := rep_val_iff.1 hs
    refine .inl ⟨0, [], m, us, World.ownsRow_nil .., hm, hl, ho, by simpa using h3.1, ?_⟩
    intro v' w' hv' hx' hb' hz'
    have hx'' : Ext (fun _ => False) w w' := ⟨hx'.os, hx'.tape, hx'.output, hx'.size, fun k hk _ => hx'.block k hk fun hh => by simp [Value.ownBlock] at hh, hx'.drawn⟩
    obtain ⟨h4, h5⟩ := h3
    rw [Bool.cond_eq_ite] at h5
    split at h5
    · rename_i h0
      rw [Nat.beq_eq] at h0
      subst h0
      obtain ⟨a', e'⟩ := a.nx hx''
      obtain rfl := hz' rfl rfl
      exact hk _ _ _ _ _ h5 e' a' (rep_val ⟨Nat.le_refl _, by decide⟩)
    · rename_i h0
      rw [Nat.beq_eq] at h0
      rcases hv'.2 with ⟨rfl, hh⟩ | ⟨g, cap, cur, rfl, _, hg, hnc, hcap, hsz, htk⟩
      · omega
      rw [Nat.zero_add] at hnc htk ⊢
      have hgn : w.heap.size ≤ g := by
        rcases hb' with hh | ⟨b, hh, hb⟩
        · simp [Value.ownBlock] at hh
        · simp only [Value.ownBlock, Option.some.injEq] at hh; omega
      have hyl : ys.length = m * sz := by rw [← hu.length, hl]
      obtain ⟨a', e'⟩ := a.add (y := ⟨g, ys, .row e sz cap⟩) hx'' hgn ⟨.inr ⟨cur, e, us, hg, hu.nx hx'', by rw [hyl, htk]; simp, rfl, hsz, hcap, m, hyl⟩⟩
      exact hk _ _ _ _ _ (h5 g cap) e' a' (rep_val ⟨hnc, hcap⟩)
  · rename_i b n c
    obtain ⟨rfl, hok⟩ := rep_val_iff.1 hs
    have hyu : ys.length = us.length := hu.length.symm
    rcases h3 with h3 | h3
    case inr =>
      obtain ⟨i, l, hi, hnc, hle, hk'⟩ := h3
      obtain ⟨cc, t, vs, b1, b2, b3, rfl, b5, b6, q, b7⟩ := (a.at hi).row (fun _ hh => by cases hh)
      simp only at b1 b2 b3 b5 b7
      have hvl : vs.length = l.length := b2.length
      have hlc : l.length ≤ cc.size := by
        have := congrArg List.length b3
        simp at this
        omega
      refine .inr ⟨b, n, c, m, us, cc, _, rfl, hm, hl, ho, hnc, b1, by omega, ?_⟩
      obtain ⟨k1, k2⟩ := setRow_keeps w b (cc.toList.take (n * sz) ++ us ++ cc.toList.drop (n * sz + us.length)).toArray
      have hset := setRow_heap w b cc (cc.toList.take (n * sz) ++ us ++ cc.toList.drop (n * sz + us.length)).toArray _ (0, 0) b1
      have ks : Keeps F w F (w.setRow b (cc.toList.take (n * sz) ++ us ++ cc.toList.drop (n * sz + us.length)).toArray) :=
        ⟨by rw [k1]; exact Nat.le_refl _, fun _ _ h => h, fun k hk hf => k2 k fun e => a.sep _ (List.mem_of_getElem? hi) (e ▸ hf)⟩
      have hml : (l.take (n * sz) ++ ys ++ l.drop (n * sz + ys.length)).length = l.length := by
        rw [List.length_append, List.length_append, List.length_take, List.length_drop]; omega
      have oy : BxOk F (w.setRow b (cc.toList.take (n * sz) ++ us ++ cc.toList.drop (n * sz + us.length)).toArray) ⟨b, l.take (n * sz) ++ ys ++ l.drop (n * sz + ys.length), .row t sz c⟩ := by
        refine ⟨.inr ⟨_, _, vs.take (n * sz) ++ us ++ vs.drop (n * sz + us.length), hset, ?_, ?_, ?_⟩⟩
        · rw [hyu]
          exact Reps.keep ks _ _ (((b2.take _).append hu).append (b2.drop _))
        · simp only [hml]
          rw [b3, List.take_append, List.take_append, List.take_take, List.take_take, List.drop_take]
          simp only [List.length_append, List.length_take, Array.length_toList]
          have e1 : min (n * sz) l.length = n * sz := by omega
          have e2 : min l.length (n * sz) = n * sz := by omega
          have e3 : min (n * sz) cc.size = n * sz := by omega
          have e4 : us.take (l.length - n * sz) = us := List.take_of_length_le (by omega)
          rw [e1, e2, e3, e4, Nat.sub_add_eq]
        · refine ⟨rfl, ?_, b6, by simp only [hml]; exact ⟨q, b7⟩⟩
          rw [← b5]
          simp only [List.size_toArray, List.length_append, List.length_take, List.length_drop, Array.length_toList]
          omega
      obtain ⟨a', e'⟩ := a.swap (y := ⟨b, l.take (n * sz) ++ ys ++ l.drop (n * sz + ys.length), .row t sz c⟩) (w' := w.setRow b (cc.toList.take (n * sz) ++ us ++ cc.toList.drop (n * sz + us.length)).toArray) hi (by rw [k1]; exact Nat.le_refl _) ⟨rfl, rfl, rfl, Nat.le_refl _⟩ (fun k _ hk => k2 k hk) (.inl rfl) oy
      exact hk _ _ _ _ _ hk' e' a' (rep_val ⟨hnc, hok.2⟩)
    obtain ⟨hby, i, l, hi, hll, hk'⟩ := h3
    obtain ⟨cc, t, vs, b1, b2, b3, rfl, b5, b6, _⟩ := (a.at hi).row (fun _ hh => by cases hh)
    simp only at b1 b2 b3
    refine .inl ⟨n, cc.toList.take (n * sz), m, us, ⟨?_, .inr ⟨b, c, cc, rfl, Nat.zero_le _, b1, hok.1, b6, b5, rfl⟩⟩, hm, hl, ho, hby, ?_⟩
    · have := b2.length
      rw [b3, hll] at this
      exact this
    intro v' w' hv' hx' hb' hz'
    rcases hv'.2 with ⟨rfl, hh⟩ | ⟨g, cap, cur, rfl, _, hg, hnc, hcap, hsz, htk⟩
    · rcases hb' with hh | ⟨b', hh, _⟩ <;> simp [Value.ownBlock] at hh
    have hgn : g = b ∨ w.heap.size ≤ g := by
      rcases hb' with hh | ⟨b', hh, hb⟩
      · left; simpa [Value.ownBlock] using hh
      · right; simp only [Value.ownBlock, Option.some.injEq] at hh; omega
    have hyl : ys.length = m * sz := by rw [← hu.length, hl]
    have ks : Keeps F w F w' := ⟨hx'.size, fun _ _ h => h, fun k hk hf => hx'.block k hk fun hh => by
      simp only [Value.ownBlock, Option.some.injEq] at hh
      exact a.sep _ (List.mem_of_getElem? hi) (hh ▸ hf)⟩
    obtain ⟨a', e'⟩ := a.swap (y := ⟨g, l ++ ys, .row _ sz cap⟩) hi hx'.size ⟨hx'.os, hx'.tape, hx'.output, hx'.drawn⟩ (fun k hk hne => hx'.block k hk fun hh => hne (by simpa [Value.ownBlock] using hh.symm)) hgn
      ⟨.inr ⟨cur, _, vs ++ us, hg, Reps.keep ks _ _ (b2.append hu), by
        rw [List.length_append, hll, hyl, ← Nat.add_mul, htk, b3, hll], rfl, hsz, hcap, n + m, by rw [List.length_append, hll, hyl, Nat.add_mul]⟩⟩
    exact hk _ _ _ _ _ (hk' g cap) e' a' (rep_val ⟨hnc, hcap⟩)
  · exact h3.elim
theorem reps_add (z : List Value) : ∀ n m, reps (n + m) z = reps n z ++ reps m z
  | 0, m => by simp [reps]
  | n + 1, m => by rw [Nat.succ_add, reps, reps_add z n m, reps, List.append_assoc]
theorem reps_vals_eq (z : List Value) : ∀ n, (List.replicate n (vals z)).flatten = vals (reps n z)
  | 0 => rfl
  | n + 1 => by rw [List.replicate_succ, List.flatten_cons, reps_vals_eq z n, vals_eq, vals_eq, vals_eq, reps, List.map_append]
theorem reps_mem {z : List Value} {v : Value} : ∀ {n}, v ∈ reps n z → v ∈ z
  | n + 1, h => by
    rw [reps, List.mem_append] at h
    rcases h with h | h
    · exact h
    · exact reps_mem h
theorem chunk_rep {sz : Nat} {z : List D} (hz : z.length = sz) : ∀ n, chunk sz n (List.replicate n z).flatten = List.replicate n z
  | 0 => rfl
  | n + 1 => by rw [List.replicate_succ, List.flatten_cons, chunk, List.take_left' hz, List.drop_left' hz, chunk_rep hz n]
theorem amkS_ok {e : TypeId} {sz bytes : Nat} {z : List Value} {l c : D} {vl vc : Value} (h : amkS e sz bytes (vals z) l c L k) (a : AW F L w) (hl : Rep F w l vl) (hc : Rep F w c vc) (hz : ∀ v ∈ z, Okv v) (hsz : z.length = sz)
    (hk : Cont F L w k kc) : mkS e bytes z vl vc w kc := by
  obtain ⟨ki, kj, n, m, rfl, rfl, h1, h2, h3, h4⟩ := h
  obtain ⟨rfl, _⟩ := rep_val_iff.1 hl
  obtain ⟨rfl, _⟩ := rep_val_iff.1 hc
  refine ⟨m, ki, kj, n, rfl, rfl, h1, h2, h3, ?_⟩
  rw [madeCells_reps]
  have e1 : reps m z = reps n z ++ reps (m - n) z := by rw [← reps_add]; congr 1; omega
  rw [e1]
  have hlen : (vals (reps n z)).length = n * sz := by rw [vals_eq, List.length_map, reps_length, hsz]
  rcases h4 with h4 | h4
  · obtain ⟨a', e'⟩ := a.push (t := e) (kd := .row e sz m) (reps_vals (F := F) (w := w) (z := reps n z) fun v hv => hz v (reps_mem hv)) (reps (m - n) z) ⟨rfl, by rw [← e1, List.size_toArray, reps_length, hsz], by omega, n, hlen⟩
    have := h4 w.heap.size
    rw [reps_vals_eq] at this
    exact hk _ _ _ _ _ this e' a' (rep_val ⟨h1, by omega⟩)
  · obtain ⟨a', e'⟩ := a.lay (.cells (reps n z ++ reps (m - n) z).toArray e)
    refine hk _ _ _ _ _ h4 e' a' ?_
    have hR := Reps.keep (e'.keeps a) _ _ (reps_vals (F := F) (w := w) (z := reps n z) fun v hv => hz v (reps_mem hv))
    have hnew : (w.alloc (.cells (reps n z ++ reps (m - n) z).toArray e)).heap[w.heap.size]? = some (.cells (reps n z ++ reps (m - n) z).toArray e (0, 0)) := by
      show (w.heap.push _)[w.heap.size]? = _
      rw [Array.getElem?_push, if_pos rfl]
    have hrl : (reps n z).length = n * sz := by rw [reps_length, hsz]
    have hc := cells_of hnew 0 (n * sz)
    simp only [List.drop_zero] at hc
    rw [List.take_left' hrl] at hc
    rw [Rep]
    refine ⟨_, m, by rw [List.length_replicate], ⟨by rw [List.length_replicate]; exact h1, by omega⟩, .inr ⟨w.heap.size, 0, rfl, .inr rfl, by simp, ?_⟩⟩
    rw [← chunk_rep (z := vals z) (by rw [vals_eq, List.length_map, hsz]) n, reps_vals_eq]
    exact rws_chunk n hR hc (by rw [hrl]; exact Nat.le_refl _)

def ContP (F : Nat → Prop) (L : List Bx) (w : World) (kp : D → List Bx → Prop) (kpc : List PanicEntry → World → Prop) : Prop :=
  ∀ d L' v w' F', kp d L' → Ev F L w F' L' w' → AW F' L' w' → Rep F' w' d v → kpc [{ v := v, recovered := false }] w'
theorem Spec.mono {g : FuncId} {args : Array Value} {R T : Ending → World → Prop} (h : Spec P g args w R) (hRT : ∀ e w', R e w' → T e w') : Spec P g args w T :=
  h.imp (fun h => ⟨h.1, h.2.mono hRT⟩) fun ⟨v, w', h1, h2⟩ => ⟨v, w', h1, hRT _ _ h2⟩
variable {kp : D → List Bx → Prop} {kpc : List PanicEntry → World → Prop}
theorem acallW_ok {g : FuncId} {args : List D} {vs : List Value} (h : acallW P g args L kp k) (a : AW F L w) (hr : Reps F w args vs) (hk : Cont F L w k kc) (hp : ContP F L w kp kpc) : callW P g vs.toArray w kpc kc := by
  refine (h F w vs a hr).mono fun e w' hh => ?_
  obtain ⟨ae, F', L', h1, h2, h3, h4⟩ := hh
  cases ae with
  | ret d => obtain ⟨v, rfl, hv⟩ := h3; exact hk _ _ _ _ _ h4 h1 h2 hv
  | pan d => obtain ⟨v, rfl, hv⟩ := h3; exact hp _ _ _ _ _ h4 h1 h2 hv
theorem acallS_W {g : FuncId} {args : List D} (h : acallS P g args L kp k) : acallW P g args L kp k := by
  obtain ⟨ae, h1, h2⟩ := h
  intro F w vs a hr
  refine (h1 F w vs a hr).mono fun e w' hh => ?_
  obtain ⟨ae', F', L', q1, q2, q3, rfl, rfl⟩ := hh
  refine ⟨ae', F', L', q1, q2, q3, ?_⟩
  cases ae' with
  | ret d => exact h2
  | pan d => exact h2
theorem acallF_ok {s : Bool} {f : D} {args : List D} {vf : Value} {vs : List Value} (h : acallF P s f args L kp k) (a : AW F L w) (hf : Rep F w f vf) (hr : Reps F w args vs) (hk : Cont F L w k kc) (hp : ContP F L w kp kpc) : callF P vf vs.toArray w kpc kc := by
  unfold acallF at h
  split at h
  · rename_i g first cap
    rw [Rep] at hf
    obtain ⟨as, cs, rfl, h1, h2⟩ := hf
    have h' : acallW P g (first ++ args ++ cap) L kp k := by
      cases s with
      | true => exact acallS_W h
      | false => exact h
    simpa [callF] using acallW_ok h' a ((h1.append hr).append h2) hk hp
  · exact h.elim

theorem zT_mono {t : TypeId} {G H : List Value → Prop} (h : zT P t G) (hh : ∀ z, G z → H z) : zT P t H := by
  unfold zT at h ⊢
  cases hi : P.info? t with
  | none => simp only [hi] at h
  | some i =>
    simp only [hi] at h ⊢
    cases hz : i.zero with
    | none => simp only [hz] at h
    | some z => simp only [hz] at h ⊢; exact hh _ h
theorem orep_map {ρ : Operand → D} {ρc : Operand → Value} {x : Option Operand} (h : ∀ y, x = some y → Rep F w (ρ y) (ρc y)) : ORep F w (x.map ρ) (x.map ρc) := by
  cases x with
  | none => trivial
  | some y => exact h y rfl
theorem vals_reps_ok {z : List Value} (hz : ∀ v ∈ z, Okv v) (n : Nat) : Reps F w (vals (reps n z)) (reps n z) := reps_vals fun v hv => hz v (reps_mem hv)
theorem aclr_ok {z : List Value} {sz : Nat} {x : D} {v : Value} {kl : List Bx → Prop} {kw : World → Prop} (h : aclr z sz x L kl) (hsz : 1 ≤ sz) (a : AW F L w) (hz : ∀ v ∈ z, Okv v) (hx : Rep F w x v)
    (hk : ∀ L' w', kl L' → Ev F L w F L' w' → AW F L' w' → kw w') : clr z sz v w kw := by
  unfold aclr at h
  split at h
  · obtain ⟨rfl, _⟩ := rep_val_iff.1 hx
    exact hk _ _ h (Ev.refl ..) a
  · rename_i b o n c
    obtain ⟨rfl, _⟩ := rep_val_iff.1 hx
    show (bif Nat.beq n 0 then kw w else st _ _ _ _ _)
    rw [Bool.cond_eq_ite] at h ⊢
    split at h
    · rename_i hn; rw [if_pos hn]; exact hk _ _ h (Ev.refl ..) a
    · rename_i hn
      rw [if_neg hn]
      rw [Nat.beq_eq] at hn
      have hn1 : 1 * 1 ≤ n * sz := Nat.mul_le_mul (by omega) hsz
      exact ast_ok h (by omega) a (rep_val trivial) (by rw [Rep]; exact ⟨reps n z, rfl, vals_reps_ok hz n⟩) hk
  · exact h.elim
theorem acpy_ok {sz : Nat} {d x : D} {vd v : Value} (h : acpy sz d x L k) (hsz : 1 ≤ sz) (a : AW F L w) (hd : Rep F w d vd) (hx : Rep F w x v) (hk : Cont F L w k kc) : cpy sz vd v w kc := by
  unfold acpy at h
  split at h
  · rename_i b o n c
    obtain ⟨rfl, hok⟩ := rep_val_iff.1 hd
    have hok : n ≤ c ∧ c ≤ 9223372036854775807 := hok
    obtain ⟨m, ys, h1, h2⟩ := h
    obtain ⟨us, hu, hl, hm⟩ := asrc_ok h1 a hx
    refine ⟨m, us, hm, hl, ?_⟩
    rw [Bool.cond_eq_ite] at h2 ⊢
    split at h2
    · rename_i hn; rw [if_pos hn]; exact hk _ _ _ _ _ h2 (Ev.refl ..) a (rep_val (by constructor <;> decide))
    · rename_i hn
      rw [if_neg hn]
      rw [Nat.beq_eq] at hn
      have hn1 : 1 * 1 ≤ min m n * sz := Nat.mul_le_mul (by omega) hsz
      exact ast_ok h2 (by omega) a (rep_val trivial) (by rw [Rep]; exact ⟨_, rfl, Reps.take _ hu⟩) fun L' w' h3 h4 h5 => hk _ _ _ _ _ h3 h4 h5 (rep_val (by show -(loN .i64 : Int) ≤ _ ∧ _ ≤ (hiN .i64 : Int); have : hiN .i64 = 9223372036854775807 := rfl; have : loN .i64 = 9223372036854775808 := rfl; omega))
  · exact h.elim
theorem zV_mono {t : TypeId} {G H : Value → Prop} (h : zV P t G) (hh : ∀ z, G z → H z) : zV P t H := by
  obtain ⟨i, z, h1, h2, h3⟩ := zV_spec h
  unfold zV
  simp only [h1, h2]
  exact hh _ h3
theorem setObj_keeps (w : World) (b : Nat) (o : Obj) : ({ w with heap := w.heap.setIfInBounds b o } : World).heap.size = w.heap.size ∧ (∀ k, k ≠ b → ({ w with heap := w.heap.setIfInBounds b o } : World).heap[k]? = w.heap[k]?) :=
  ⟨by simp, fun k hn => by
    show (w.heap.setIfInBounds b o)[k]? = _
    rw [Array.getElem?_setIfInBounds_ne (Ne.symm hn)]⟩
theorem amkM_ok (h : amkM L k) (a : AW F L w) (hk : Cont F L w k kc) : mkM w kc := by
  have old : ∀ i, i < w.heap.size → (w.alloc (.map #[] 0)).heap[i]? = w.heap[i]? := fun i hi => by
    show (w.heap.push _)[i]? = _
    rw [Array.getElem?_push, if_neg (Nat.ne_of_lt hi)]
  have x : Ext (fun _ => False) w (w.alloc (.map #[] 0)) := ⟨rfl, rfl, rfl, by simp, fun i hi _ => old i hi, Nat.le_refl _⟩
  have oy : BxOk F (w.alloc (.map #[] 0)) ⟨w.heap.size, [], .map []⟩ := ⟨.inl ⟨[], #[], 0, rfl, rfl, by
    show (w.heap.push _)[w.heap.size]? = _
    rw [Array.getElem?_push, if_pos rfl], rfl, List.nodup_nil⟩⟩
  obtain ⟨a', e'⟩ := a.add x (y := ⟨w.heap.size, [], .map []⟩) (Nat.le_refl _) oy
  exact hk _ _ _ _ _ (h w.heap.size) e' a' (rep_val trivial)
theorem MReps.mem : ∀ {es : List (Value × D)} {l : List MapEntry}, MReps F w es l → (∀ e ∈ l, ∃ d, (e.key, d) ∈ es ∧ Rep F w d e.val) ∧ ∀ p ∈ es, ∃ e ∈ l, e.key = p.1 ∧ Rep F w p.2 e.val
  | [], l, h => by
    have h : l = [] := h
    subst h
    exact ⟨fun _ h => (by cases h), fun _ h => (by cases h)⟩
  | (k, d) :: es, l, ⟨e, s, h1, h2, h3, h4⟩ => by
    subst h1
    obtain ⟨m1, m2⟩ := MReps.mem h4
    refine ⟨fun x hx => ?_, fun p hp => ?_⟩
    · rcases List.mem_cons.1 hx with rfl | hx
      · exact ⟨d, by rw [h2]; exact List.mem_cons_self, h3⟩
      · obtain ⟨q, hq, hr⟩ := m1 x hx
        exact ⟨q, List.mem_cons_of_mem _ hq, hr⟩
    · rcases List.mem_cons.1 hp with rfl | hp
      · exact ⟨e, List.mem_cons_self, h2, h3⟩
      · obtain ⟨q, hq, hr⟩ := m2 p hp
        exact ⟨q, List.mem_cons_of_mem _ hq, hr⟩
theorem MReps.len : ∀ {es : List (Value × D)} {l : List MapEntry}, MReps F w es l → es.length = l.length
  | [], l, h => by
    have h : l = [] := h
    subst h; rfl
  | _ :: es, l, ⟨e, s, h1, h2, h3, h4⟩ => by
    subst h1
    simp [MReps.len h4]
theorem MReps.at : ∀ {es : List (Value × D)} {l : List MapEntry}, MReps F w es l → ∀ {j : Nat} {p : Value × D}, es[j]? = some p → ∃ e, l[j]? = some e ∧ e.key = p.1
  | [], _, _, j, p, hp => by simp at hp
  | (k, d) :: es, l, ⟨e, s, h1, h2, h3, h4⟩, j, p, hp => by
    subst h1
    cases j with
    | zero =>
      simp only [List.getElem?_cons_zero, Option.some.injEq] at hp
      subst hp
      exact ⟨e, rfl, h2⟩
    | succ j => exact MReps.at h4 (by simpa using hp)
theorem MReps.push : ∀ {es : List (Value × D)} {l : List MapEntry} {e : MapEntry} {d : D}, MReps F w es l → Rep F w d e.val → MReps F w (es ++ [(e.key, d)]) (l ++ [e])
  | [], l, e, d, h, hr => by
    have h : l = [] := h
    subst h
    exact ⟨e, [], rfl, rfl, hr, rfl⟩
  | _ :: es, l, e, d, ⟨x, s, h1, h2, h3, h4⟩, hr => by
    subst h1
    exact ⟨x, s ++ [e], rfl, h2, h3, MReps.push h4 hr⟩
theorem MReps.set : ∀ {es : List (Value × D)} {l : List MapEntry} {e : MapEntry} {d : D} (j : Nat), MReps F w es l → Rep F w d e.val → MReps F w (es.set j (e.key, d)) (l.set j e)
  | [], l, e, d, j, h, hr => by
    have h : l = [] := h
    subst h
    exact rfl
  | _ :: es, l, e, d, j, ⟨x, s, h1, h2, h3, h4⟩, hr => by
    subst h1
    cases j with
    | zero => exact ⟨e, s, rfl, rfl, hr, h4⟩
    | succ j => exact ⟨x, s.set j e, rfl, h2, h3, MReps.set j h4 hr⟩
theorem map_of {b j : Nat} {es : List (Value × D)} (a : AW F L w) (hj : L[j]? = some (Bx.mk b [] (.map es))) : ∃ ces clock, w.heap[b]? = some (.map ces clock) ∧ MReps F w es ces.toList ∧ KeysOk es := by
  rcases (a.at hj).has with ⟨es', ces, clock, h0, _, h2, h3, h4⟩ | ⟨_, _, _, _, _, _, h⟩
  · cases h0
    exact ⟨ces, clock, h2, h3, h4⟩
  · exact h.elim
theorem keys_one {es : List (Value × D)} (h : KeysOk es) {k : Value} {d d' : D} (h1 : (k, d) ∈ es) (h2 : (k, d') ∈ es) : d = d' := by
  unfold KeysOk at h
  induction es with
  | nil => cases h1
  | cons p es ih =>
    rw [List.map_cons, List.nodup_cons] at h
    rcases List.mem_cons.1 h1 with e1 | h1
    · rcases List.mem_cons.1 h2 with e2 | h2
      · rw [← e1] at e2; exact (congrArg Prod.snd e2).symm
      · exact absurd (List.mem_map.2 ⟨_, h2, by rw [← e1]⟩) h.1
    · rcases List.mem_cons.1 h2 with e2 | h2
      · exact absurd (List.mem_map.2 ⟨_, h1, by rw [← e2]⟩) h.1
      · exact ih h.2 h1 h2
theorem strI_size (ns : List Int) : (strI ns).size = ns.length := by
  have : ∀ (ns : List Int) (s : ByteArray), (ns.foldl (fun r n => r.push (UInt8.ofNat n.toNat)) s).size = s.size + ns.length := by
    intro ns
    induction ns with
    | nil => intro s; rfl
    | cons n ns ih => intro s; rw [List.foldl_cons, ih, ByteArray.size_push, List.length_cons]; omega
  rw [strI, this, show ByteArray.empty.size = 0 from rfl, Nat.zero_add]
theorem rws_bytes {b : Nat} : ∀ (ns : List Int) (o : Nat), Rws F w 1 (ns.map fun n => [D.val (.int .u8 n)]) b o → Cells w ⟨b, o, none⟩ (ns.map (Value.int .u8))
  | [], _, _ => fun i hi => by simp at hi
  | n :: ns, o, h => by
    rw [List.map_cons, Rws] at h
    obtain ⟨⟨vs, h1, _, h3⟩, h4⟩ := h
    obtain ⟨v, rfl, h5⟩ := h1.one
    obtain ⟨rfl, _⟩ := rep_val_iff.1 h5
    rw [List.map_cons]
    have := cells_append (vs := [.int .u8 n]) (us := ns.map (Value.int .u8)) h3 (by simpa using rws_bytes ns (o + 1) h4)
    simpa using this
theorem acvB_ok {x : D} {v : Value} {kd : D → Prop} {kp : Value → Prop} (h : acvB x kd) (hx : Rep F w x v) (hk : ∀ d r, kd d → Rep F w d r → kp r) : cvB v w kp := by
  unfold acvB at h
  split at h
  · obtain ⟨ns, rfl, rfl, h⟩ := h
    rw [Rep] at hx
    obtain ⟨p, c, rfl, hf, hc⟩ := hx
    rw [List.length_map] at hf ⊢
    have hok : Okv (.string (strI ns)) := by show (strI ns).size ≤ 9223372036854775807; rw [strI_size]; exact Nat.le_trans hf.1 hf.2
    rcases hc with hc | ⟨b, o, rfl, _, _, hr⟩
    · obtain rfl : ns = [] := by simpa using hc
      cases p with
      | none => exact hk _ _ h (rep_val hok)
      | some a => exact ⟨[], rfl, fun i hi => by simp at hi, hk _ _ h (rep_val hok)⟩
    · exact ⟨ns, rfl, rws_bytes ns o hr, hk _ _ h (rep_val hok)⟩
  · exact h.elim
theorem alkM_ok {kt : TypeId} {ok : Bool} {z : Value} {x i : D} {vx vi : Value} {kd : D → Prop} {kp : Value → Prop} (h : alkM P kt ok (dz z) x i L kd) (hz : zvOk z = true) (a : AW F L w) (hx : Rep F w x vx) (hi : Rep F w i vi)
    (hk : ∀ d r, kd d → Rep F w d r → kp r) : lkM P kt ok z vx vi w kp := by
  unfold alkM at h
  split at h
  case h_3 => exact h.elim
  case h_2 =>
    obtain ⟨rfl, _⟩ := rep_val_iff.1 hx
    obtain ⟨K, key, mk, hkey, hkk, h⟩ := h
    obtain rfl := dkv_ok _ hkey hi
    exact ⟨K, mk, hkk, hk _ _ h (resOk_ok (dz_ok hz))⟩
  rename_i b
  obtain ⟨rfl, _⟩ := rep_val_iff.1 hx
  obtain ⟨j, es, K, key, hj, mk, hK, hkey, hkk, h⟩ := h
  obtain rfl := dkv_ok _ hkey hi
  obtain ⟨ces, clock, h2, h3, h4⟩ := map_of a hj
  obtain ⟨m1, m2⟩ := h3.mem
  refine ⟨K, ces, clock, h2, mk, hkk, fun e he => ?_, ?_, ?_⟩
  · obtain ⟨d, hd, _⟩ := m1 e he
    exact hK _ hd
  · intro hno
    rcases h with ⟨d, hd, _⟩ | ⟨_, hk'⟩
    · obtain ⟨e, he, hee, _⟩ := m2 _ hd
      exact absurd hee (hno e he)
    · exact hk _ _ hk' (resOk_ok (dz_ok hz))
  · intro e he hee
    obtain ⟨d', hd', hr'⟩ := m1 e he
    rcases h with ⟨d, hd, hk'⟩ | ⟨hno, _⟩
    · rw [hee] at hd'
      rw [keys_one h4 hd hd'] at hk'
      exact hk _ _ hk' (resOk_ok hr')
    · exact absurd hee (hno _ hd')
theorem aupM_ok {kt : TypeId} {x i v : D} {vx vi vv : Value} {kl : List Bx → Prop} {kw : World → Prop} (h : aupM P kt x i v L kl) (a : AW F L w) (hx : Rep F w x vx) (hi : Rep F w i vi) (hv : Rep F w v vv)
    (hk : ∀ L' w', kl L' → Ev F L w F L' w' → AW F L' w' → kw w') : upM P kt vx vi vv w kw := by
  unfold aupM at h
  split at h
  case h_2 => exact h.elim
  rename_i b
  obtain ⟨rfl, _⟩ := rep_val_iff.1 hx
  obtain ⟨j, es, K, key, hj, mk, hK, hkey, hkk, h⟩ := h
  obtain rfl := dkv_ok _ hkey hi
  obtain ⟨ces, clock, h2, h3, h4⟩ := map_of a hj
  obtain ⟨m1, m2⟩ := h3.mem
  have hlt : b < w.heap.size := (Array.getElem?_eq_some_iff.1 h2).1
  have go : ∀ (o : Obj) (es' : List (Value × D)), BxOk F { w with heap := w.heap.setIfInBounds b o } ⟨b, [], .map es'⟩ → kl (L.set j ⟨b, [], .map es'⟩) → kw { w with heap := w.heap.setIfInBounds b o } := by
    intro o es' oy hkl
    obtain ⟨k1, k2⟩ := setObj_keeps w b o
    obtain ⟨a', e'⟩ := a.swap (y := ⟨b, [], .map es'⟩) (w' := { w with heap := w.heap.setIfInBounds b o }) hj (by rw [k1]; exact Nat.le_refl _) ⟨rfl, rfl, rfl, Nat.le_refl _⟩ (fun k _ hk => k2 k hk) (.inl rfl) oy
    exact hk _ _ hkl e' a'
  have kp : ∀ o : Obj, Keeps F w F { w with heap := w.heap.setIfInBounds b o } := fun o =>
    ⟨by rw [(setObj_keeps w b o).1]; exact Nat.le_refl _, fun _ _ h => h, fun k hk hf => (setObj_keeps w b o).2 k fun e => a.sep _ (List.mem_of_getElem? hj) (e ▸ hf)⟩
  refine ⟨K, ces, clock, h2, mk, hkk, fun e he => ?_, ?_, ?_⟩
  · obtain ⟨d, hd, _⟩ := m1 e he
    exact hK _ hd
  · intro hno
    rcases h with ⟨hne, hk'⟩ | ⟨m, d, hd, _⟩
    · refine go _ _ ⟨.inl ⟨_, ces.push { key := vi, val := vv, born := clock }, clock + 1, rfl, rfl, by simp [hlt], ?_, ?_⟩⟩ hk'
      · rw [Array.toList_push]
        exact (MReps.push (e := { key := vi, val := vv, born := clock }) h3 hv).keep (kp _)
      · unfold KeysOk at h4 ⊢
        rw [List.map_append, List.nodup_append]
        refine ⟨h4, by simp, ?_⟩
        intro q hq r hr
        simp only [List.map_cons, List.map_nil, List.mem_singleton] at hr
        subst hr
        obtain ⟨p, hp, rfl⟩ := List.mem_map.1 hq
        exact hne p hp
    · obtain ⟨e, he, hee, _⟩ := m2 _ (List.mem_of_getElem? hd)
      exact absurd hee (hno e he)
  · intro q e he hee
    obtain ⟨d', hd', hr'⟩ := m1 e (List.mem_of_getElem? he)
    rcases h with ⟨hne, _⟩ | ⟨m, d, hd, hk'⟩
    · exact absurd hee (hne _ hd')
    · have hql : q < es.length := by rw [h3.len]; exact (List.getElem?_eq_some_iff.1 he).1
      obtain ⟨e2, he2, hee2⟩ := h3.at (j := q) (p := es[q]) (by simp [hql])
      have hq2 : es[q].1 = vi := by
        rw [← hee2]
        rw [he] at he2
        cases he2
        exact hee
      have hmq : m = q := by
        have hml : m < es.length := (List.getElem?_eq_some_iff.1 hd).1
        have hm2 : es[m] = (vi, d) := (List.getElem?_eq_some_iff.1 hd).2
        have e1 : (es.map (·.1))[m]'(by simpa using hml) = (es.map (·.1))[q]'(by simpa using hql) := by simp [hm2, hq2]
        exact (List.getElem_inj h4).1 e1
      subst hmq
      refine go _ _ ⟨.inl ⟨_, ces.modify m (fun e => { e with key := vi, val := vv }), clock, rfl, rfl, by simp [hlt], ?_, ?_⟩⟩ hk'
      · have hs : (ces.modify m (fun e => { e with key := vi, val := vv })).toList = ces.toList.set m { e with key := vi, val := vv } := by
          rw [Array.toList_modify]
          apply List.ext_getElem?
          intro r
          rw [List.getElem?_modify, List.getElem?_set]
          by_cases hr : m = r
          · subst hr
            have h9 := (List.getElem?_eq_some_iff.1 he).1
            have h8 := (List.getElem?_eq_some_iff.1 he).2
            have h7 : m < ces.size := by simpa using h9
            have h6 : ces[m].born = e.born := by rw [← h8]; simp
            simp [h7, h6]
          · simp [hr]
        rw [hs]
        exact (MReps.set (e := { e with key := vi, val := vv }) m h3 hv).keep (kp _)
      · unfold KeysOk at h4 ⊢
        have : (es.set m (vi, v)).map (·.1) = es.map (·.1) := by
          rw [List.map_set]
          apply List.ext_getElem?
          intro r
          rw [List.getElem?_set]
          split
          · rename_i hr
            subst hr
            simp [hql, hq2]
          · rfl
        rw [this]; exact h4
theorem aopK_sound {s : Bool} {ty : TypeId} {op : Op} {ρ : Operand → D} {ρc : Operand → Value} (h : aopK P s ty op ρ L k kp) (a : AW F L w) (hr : ∀ x ∈ op.operands.toList, Rep F w (ρ x) (ρc x)) (hk : Cont F L w k kc) (hp : ContP F L w kp kpc) :
    opK P ty op ρc w kc kpc := by
  have pu := hk.pure a
  cases op with
  | move x => exact pu _ _ h (hr x (by simp [Op.operands]))
  | assign x => exact pu _ _ h (hr x (by simp [Op.operands]))
  | pick c x y => simp only [aopK] at h; exact apick_ok h (hr c (by simp [Op.operands])) (hr x (by simp [Op.operands])) (hr y (by simp [Op.operands])) pu
  | alloc t =>
    cases s with
    | true => exact h.elim
    | false =>
      simp only [aopK, cond_false] at h
      simp only [opK]
      refine zT_mono h fun z hz => ?_
      rw [Bool.cond_eq_ite] at hz
      split at hz
      · rename_i hzo; exact abx_ok (t := t) hz a (reps_vals (zok_of hzo)) hk
      · exact hz.elim
  | box t x =>
    cases s with
    | true => exact h.elim
    | false => exact abxv_ok (t := t) h a (hr x (by simp [Op.operands])) hk
  | build t ps =>
    have hrp : ∀ p ∈ ps.toList, Rep F w (ρ p.2) (ρc p.2) := fun p hpp => hr p.2 (by simp only [Op.operands]; exact List.mem_map_of_mem hpp)
    simp only [aopK] at h
    simp only [opK]
    cases hu : P.underlying t with
    | none => simp only [hu] at h
    | some d =>
      cases d <;> simp only [hu] at h <;> try exact h.elim
      all_goals
        refine zT_mono h fun z hz => ?_
        rw [Bool.cond_eq_ite] at hz ⊢
        split at hz
        · rename_i hc
          rw [Bool.and_eq_true] at hc
          rw [if_pos hc.2]
          exact abld_ok hz (pts_of hrp) (zok_of hc.1) pu
        · exact hz.elim
  | buildSlice t n ps =>
    have hrp : ∀ p ∈ ps.toList, Rep F w (ρ p.2) (ρc p.2) := fun p hpp => hr p.2 (by simp only [Op.operands]; exact List.mem_map_of_mem hpp)
    simp only [aopK] at h
    simp only [opK]
    cases hu : P.underlying t with
    | none => simp only [hu] at h
    | some d =>
      cases d <;> simp only [hu] at h <;> try exact h.elim
      rename_i el
      refine zT_mono h fun z hz => ?_
      rw [Bool.cond_eq_ite] at hz ⊢
      split at hz
      · rename_i hc
        rw [Bool.and_eq_true] at hc
        rw [if_pos hc.2]
        obtain ⟨hc1, hc2⟩ := hc
        simp only [Bool.and_eq_true, Nat.beq_eq, Nat.ble_eq, len_eq] at hc2
        obtain ⟨⟨⟨h1, h2⟩, h3⟩, h4⟩ := hc2
        have hzl : (reps n z).length = n * sizeT P el := by rw [reps_length, h1]
        have hn : n ≤ 9223372036854775807 := Nat.le_trans (Nat.le_mul_of_pos_right n h2) (Nat.le_trans h3 (by decide))
        have hzo : ∀ v ∈ reps n z, Okv v := fun v hv => zok_of hc1 v (reps_mem hv)
        cases s with
        | true => simp only [cond_true] at hz; exact abldF_ok (t := t) hz a hrp hzo hzl h4 hn fun d L' v w' F' h1 h2 h3 h4 => hk d L' v w' F' (by rw [h1.1]; exact h1.2) h2 h3 h4
        | false => simp only [cond_false] at hz; exact abldS_ok (t := t) hz a hrp hzo hzl h4 hn hk
      · exact hz.elim
  | load t x =>
    simp only [aopK] at h
    simp only [opK]
    cases hu : P.underlying t with
    | none => simp only [hu] at h
    | some d =>
      simp only [hu] at h ⊢
      have hx := hr x (by simp [Op.operands])
      cases hg : isAgg d with
      | true => simp only [hg, cond_true] at h ⊢; exact aldN_ok h a hx pu
      | false => simp only [hg, cond_false] at h ⊢; exact ald1_ok h a hx pu
  | store t x y =>
    cases s with
    | true => exact h.elim
    | false =>
      simp only [aopK, cond_false] at h
      simp only [opK]
      rw [Bool.cond_eq_ite] at h ⊢
      split at h
      · rename_i hc
        rw [if_pos hc]
        rw [Bool.cond_eq_ite] at h
        split at h
        · rename_i hb
          exact ast_ok h (Nat.le_of_ble_eq_true hb) a (hr x (by simp [Op.operands])) (hr y (by simp [Op.operands])) fun L' w' h1 h2 h3 => hk _ _ _ _ _ h1 h2 h3 (rep_val trivial)
        · rw [Bool.cond_eq_ite] at h
          split at h
          · rename_i hz
            rw [Nat.beq_eq] at hz
            rw [hz]
            exact ast0_ok h a (hr x (by simp [Op.operands])) (hr y (by simp [Op.operands])) fun L' w' h1 h2 h3 => hk _ _ _ _ _ h1 h2 h3 (rep_val trivial)
          · exact h.elim
      · exact h.elim
  | nilCheck x => simp only [aopK] at h; exact anilc_ok h (hr x (by simp [Op.operands])) pu
  | binOp q t x y u =>
    simp only [aopK] at h
    simp only [opK]
    have hx := hr x (by simp [Op.operands])
    have hy := hr y (by simp [Op.operands])
    cases hu : P.underlying t with
    | none => simp only [hu] at h
    | some d =>
      cases d <;> simp only [hu] at h ⊢ <;> first
        | exact h.elim
        | exact u2_ok (m_ar q) h hx hy pu
        | exact u2_ok (m_arB q) h hx hy pu
        | exact u2_ok (m_arF q) h hx hy pu
        | exact aeqP_ok h hx hy pu
        | exact aeqS_ok h hx hy pu
        | (cases y with
           | const c => exact aeqI_ok h hx hy pu
           | _ => exact h.elim)
  | unOp q t x =>
    simp only [aopK] at h
    simp only [opK]
    have hx := hr x (by simp [Op.operands])
    cases q <;> simp only at h ⊢ <;> first
      | exact h.elim
      | exact u1_ok m_notb h hx pu
      | exact u1_ok m_neg h hx pu
  | convert s' d x =>
    simp only [aopK] at h
    simp only [opK]
    have hx := hr x (by simp [Op.operands])
    cases hs : P.underlying s' with
    | none => simp only [hs] at h
    | some u =>
      cases hd : P.underlying d with
      | none => simp only [hs, hd] at h
      | some v =>
        cases v <;> simp only [hs, hd] at h ⊢ <;> first
          | exact h.elim
          | exact u1_ok (m_cvI _) h hx pu
          | (cases u <;> simp only at h ⊢ <;> first
              | exact h.elim
              | (rw [Bool.cond_eq_ite] at h ⊢; split at h
                 · rename_i hu; rw [if_pos hu]; exact acvB_ok h hx pu
                 · exact h.elim))
  | makeMap t r =>
    cases r with
    | some m => exact h.elim
    | none =>
      cases s with
      | true => exact h.elim
      | false => exact amkM_ok h a hk
  | lookup t x i ok =>
    simp only [aopK] at h
    simp only [opK]
    cases hu : P.underlying t with
    | none => rw [hu] at h; exact h.elim
    | some d =>
      cases d <;> simp only [hu] at h ⊢ <;> try exact h.elim
      refine zV_mono h fun z hz => ?_
      rw [Bool.cond_eq_ite] at hz
      split at hz
      · rename_i hzo; exact alkM_ok hz hzo a (hr x (by simp [Op.operands])) (hr i (by simp [Op.operands])) pu
      · exact hz.elim
  | mapUpdate t m i x =>
    cases s with
    | true => exact h.elim
    | false =>
      simp only [aopK, cond_false] at h
      simp only [opK]
      cases hu : P.underlying t with
      | none => simp only [hu] at h
      | some d =>
        cases d <;> simp only [hu] at h ⊢ <;> try exact h.elim
        exact aupM_ok h a (hr m (by simp [Op.operands])) (hr i (by simp [Op.operands])) (hr x (by simp [Op.operands])) fun L' w' h1 h2 h3 => hk _ _ _ _ _ h1 h2 h3 (rep_val trivial)
  | insert t m i x =>
    cases s with
    | true => exact h.elim
    | false =>
      simp only [aopK, cond_false] at h
      simp only [opK]
      cases hu : P.underlying t with
      | none => simp only [hu] at h
      | some d =>
        cases d <;> simp only [hu] at h ⊢ <;> try exact h.elim
        exact aupM_ok h a (hr m (by simp [Op.operands])) (hr i (by simp [Op.operands])) (hr x (by simp [Op.operands])) fun L' w' h1 h2 h3 => hk _ _ _ _ _ h1 h2 h3 (rep_val trivial)
  | typeAssert x xt t ok =>
    simp only [aopK] at h
    simp only [opK]
    have hx := hr x (by simp [Op.operands])
    cases hu : P.underlying t with
    | none => simp only [hu] at h
    | some d =>
      cases d <;> simp only [hu] at h ⊢ <;> first
        | exact h.elim
        | (refine zV_mono h fun z hz => ?_
           rw [Bool.cond_eq_ite] at hz
           split at hz
           · rename_i hzo; exact atas_ok hz hzo hx pu
           · exact hz.elim)
  | makeFunc fn first cap =>
    simp only [aopK] at h
    simp only [opK]
    cases fn <;> simp only at h <;> try exact h.elim
    refine pu _ _ h ?_
    rw [Rep]
    refine ⟨_, _, rfl, mapO_ok fun x hx => hr x ?_, mapO_ok fun x hx => hr x ?_⟩
    · simp only [Op.operands, Array.toList_append, List.mem_append]; exact .inl hx
    · simp only [Op.operands, Array.toList_append, List.mem_append]; exact .inr hx
  | fieldAddr s' x f =>
    simp only [aopK] at h
    simp only [opK]
    have hx := hr x (by simp [Op.operands])
    cases hu : P.underlying s' with
    | none => simp only [hu] at h
    | some d =>
      cases d <;> simp only [hu] at h ⊢ <;> try exact h.elim
      split at h
      · rename_i hf
        simp only [hf]
        rw [Bool.cond_eq_ite] at h ⊢
        split at h
        · rename_i hc; rw [if_pos hc]; exact afld_ok h hx pu
        · exact h.elim
      · exact h.elim
  | field t x f =>
    simp only [aopK] at h
    simp only [opK]
    have hx := hr x (by simp [Op.operands])
    cases hu : P.underlying t with
    | none => simp only [hu] at h
    | some d =>
      cases d <;> simp only [hu] at h ⊢ <;> try exact h.elim
      split at h
      · rename_i hf
        simp only [hf]
        split at h
        · rename_i hf2
          simp only [hf2]
          rw [Bool.cond_eq_ite] at h ⊢
          split at h
          · rename_i hc; rw [if_pos hc]; exact afieldN_ok h hx pu
          · rename_i hc; rw [if_neg hc]; exact afield1_ok h hx pu
        · exact h.elim
      · exact h.elim
  | indexAddr t x i =>
    simp only [aopK] at h
    simp only [opK]
    have hx := hr x (by simp [Op.operands])
    have hi := hr i (by simp [Op.operands])
    cases hu : P.underlying t with
    | none => simp only [hu] at h
    | some d =>
      cases d <;> simp only [hu] at h ⊢ <;> try exact h.elim
      all_goals
        rw [Bool.cond_eq_ite] at h ⊢
        split at h
        · rename_i hc; rw [if_pos hc]
          first
          | exact aidxS_ok h hx hi pu
          | exact aidxP_ok h hx hi pu
        · exact h.elim
  | index t x i =>
    simp only [aopK] at h
    simp only [opK]
    cases hu : P.underlying t with
    | none => simp only [hu] at h
    | some d =>
      cases d <;> simp only [hu] at h ⊢ <;> try exact h.elim
      exact u2_ok m_idxStr h (hr x (by simp [Op.operands])) (hr i (by simp [Op.operands])) pu
  | extract x j => exact aext_ok h (hr x (by simp [Op.operands])) pu
  | slice t x lo hi mx =>
    cases mx with
    | some m =>
      simp only [aopK] at h
      simp only [opK]
      have hx := hr x (by simp [Op.operands])
      have hm : ORep F w (some (ρ m)) (some (ρc m)) := hr m (by simp [Op.operands])
      have hl : ORep F w (lo.map ρ) (lo.map ρc) := orep_map fun y hy => hr y (by subst hy; simp [Op.operands])
      have hh : ORep F w (hi.map ρ) (hi.map ρc) := orep_map fun y hy => hr y (by subst hy; simp [Op.operands])
      cases hu : P.underlying t with
      | none => simp only [hu] at h
      | some d =>
        cases d <;> simp only [hu] at h ⊢ <;> try exact h.elim
        rw [Bool.cond_eq_ite] at h ⊢
        split at h
        · rename_i hc; rw [if_pos hc]; exact aslcM_ok h hx hl hh hm pu
        · exact h.elim
    | none =>
      simp only [aopK] at h
      simp only [opK]
      have hx := hr x (by simp [Op.operands])
      have hl : ORep F w (lo.map ρ) (lo.map ρc) := orep_map fun y hy => hr y (by subst hy; simp [Op.operands])
      have hh : ORep F w (hi.map ρ) (hi.map ρc) := orep_map fun y hy => hr y (by subst hy; simp [Op.operands])
      cases hu : P.underlying t with
      | none => simp only [hu] at h
      | some d =>
        cases d <;> simp only [hu] at h ⊢ <;> try exact h.elim
        · exact aslcS_ok h hx hl hh pu
        · rw [Bool.cond_eq_ite] at h ⊢
          split at h
          · rename_i hc; rw [if_pos hc]; exact aslcL_ok h hx hl hh pu
          · exact h.elim
  | makeSlice t x y =>
    cases s with
    | true => exact h.elim
    | false =>
      simp only [aopK, cond_false] at h
      simp only [opK]
      cases hu : P.underlying t with
      | none => simp only [hu] at h
      | some d =>
        cases d <;> simp only [hu] at h ⊢ <;> try exact h.elim
        refine zT_mono h fun z hz => ?_
        rw [Bool.cond_eq_ite] at hz ⊢
        split at hz
        · rename_i hc
          rw [Bool.and_eq_true] at hc
          rw [if_pos hc.2]
          have h1 := hc.2
          rw [Nat.beq_eq, len_eq] at h1
          exact amkS_ok hz a (hr x (by simp [Op.operands])) (hr y (by simp [Op.operands])) (zok_of hc.1) h1 hk
        · exact hz.elim
  | makeInterface t x =>
    simp only [aopK] at h
    simp only [opK]
    cases hu : P.underlying t with
    | none => simp only [hu] at h
    | some d =>
      cases d <;> simp only [hu] at h ⊢ <;> first
        | exact h.elim
        | exact pu _ _ h (by rw [Rep]; exact ⟨_, rfl, hr x (by simp [Op.operands])⟩)
  | panic x =>
    simp only [aopK] at h
    simp only [opK]
    have hx := hr x (by simp [Op.operands])
    split at h
    · rename_i t d hd
      rw [hd] at hx
      have hx' := hx
      rw [Rep] at hx
      obtain ⟨v, hv, _⟩ := hx
      rw [hv] at hx' ⊢
      exact hp _ _ _ _ _ h (Ev.refl ..) a hx'
    · exact h.elim
  | call c =>
    simp only [aopK] at h
    simp only [opK]
    obtain ⟨cal, args, tys⟩ := c
    cases cal with
    | value f =>
      simp only at h ⊢
      refine acallF_ok h a (hr f (by simp [Op.operands, Call.operands])) (mapO_ok fun x hx => hr x ?_) hk hp
      simp [Op.operands, Call.operands, hx]
    | builtin b =>
      simp only at h ⊢
      have hm : ∀ x ∈ args.toList, Rep F w (ρ x) (ρc x) := fun x hx => hr x (by simp [Op.operands, Call.operands]; simpa using hx)
      split at h
      · rename_i x t ha ht
        simp only [ha, ht]
        have hx := hm x (by rw [ha]; simp)
        split at h
        · rename_i hu; simp only [hu]; exact u1_ok m_lenS h hx pu
        · rename_i hu; simp only [hu]; exact alenL_ok h hx pu
        · exact h.elim
      · rename_i x y ha
        simp only [ha]
        exact u2_ok m_max2 h (hm x (by rw [ha]; simp)) (hm y (by rw [ha]; simp)) pu
      · rename_i x y z ha
        simp only [ha]
        exact amax3_ok h (hm x (by rw [ha]; simp)) (hm y (by rw [ha]; simp)) (hm z (by rw [ha]; simp)) pu
      · rename_i x y ha
        simp only [ha]
        exact u2_ok m_min2 h (hm x (by rw [ha]; simp)) (hm y (by rw [ha]; simp)) pu
      · rename_i sx x t u ha ht
        simp only [ha, ht]
        cases s with
        | true => exact h.elim
        | false =>
          simp only [cond_false] at h
          split at h
          · rename_i h1 h2
            simp only [h1, h2]
            refine zT_mono h fun z hz => ?_
            rw [Bool.cond_eq_ite] at hz ⊢
            split at hz
            · rename_i hc; rw [if_pos hc]
              exact aapp_ok hz a (hm sx (by rw [ha]; simp)) (hm x (by rw [ha]; simp)) hk
            · exact hz.elim
          · exact h.elim
      · rename_i x t ha ht
        simp only [ha, ht]
        cases s with
        | true => exact h.elim
        | false =>
          simp only [cond_false] at h
          split at h
          · rename_i h1
            simp only [h1]
            refine zT_mono h fun z hz => ?_
            rw [Bool.cond_eq_ite] at hz ⊢
            split at hz
            · rename_i hc
              rw [Bool.and_eq_true] at hc
              have hc1 := hc.1
              rw [Bool.and_eq_true] at hc1
              rw [if_pos hc1.2]
              exact aclr_ok hz (Nat.le_of_ble_eq_true hc.2) a (zok_of hc1.1) (hm x (by rw [ha]; simp)) fun L' w' h3 h4 h5 => hk (.tuple []) L' (.tuple #[]) w' F h3 h4 h5 (by rw [Rep]; exact ⟨[], rfl, reps_nil⟩)
            · exact hz.elim
          · exact h.elim
      · rename_i d x t u ha ht
        simp only [ha, ht]
        cases s with
        | true => exact h.elim
        | false =>
          simp only [cond_false] at h
          split at h
          · rename_i h1 h2
            simp only [h1, h2]
            refine zT_mono h fun z hz => ?_
            rw [Bool.cond_eq_ite] at hz
            split at hz
            · rename_i hc
              exact acpy_ok hz (Nat.le_of_ble_eq_true hc) a (hm d (by rw [ha]; simp)) (hm x (by rw [ha]; simp)) hk
            · exact hz.elim
          · exact h.elim
      · exact h.elim
    | invoke r m => exact h.elim
  | _ => exact h.elim
end
end Go.V
set_option linter.unusedVariables false
namespace Go.V
open Go

def DReps (F : Nat → Prop) (w : World) : List Df → List Deferred → Prop
  | [], ds => ds = []
  | .mark :: r, ds => ∃ b s, ds = { target := .collected b, args := #[] } :: s ∧ DReps F w r s
  | .fn g c a :: r, ds => ∃ cs as s, ds = { target := .fn (.func g) (List.toArray cs), args := List.toArray as } :: s ∧ Reps F w c cs ∧ Reps F w a as ∧ DReps F w r s
structure AAgree (F : Nat → Prop) (w : World) (n : Nat) (ae : AEnv) (a : Act) : Prop where
  size : a.tmps.size = n
  tmp : ∀ i, Rep F w (ae.get i) (a.tmps.getD i undef)
  dfr : DReps F w ae.dfr a.defers
def envOf (a : Act) : Env := ⟨fun i => a.tmps.getD i undef, a.defers⟩
def ASame (D : List Nat) (a a' : Act) : Prop := ∀ i, i ∉ D → a'.tmps.getD i undef = a.tmps.getD i undef
section
variable {P : Program} {n : Nat} {F F' : Nat → Prop} {w w' : World} {L L' : List Bx} {ae : AEnv} {a : Act} {o : Oper}
theorem AAgree.agree (h : AAgree F w n ae a) : Agree n (envOf a) a := ⟨h.size, fun _ => rfl, rfl⟩
theorem DReps.keep (k : Keeps F w F' w') : ∀ {r : List Df} {ds : List Deferred}, DReps F w r ds → DReps F' w' r ds
  | [], _, h => h
  | .mark :: r, _, h => by
    obtain ⟨b, s, rfl, h⟩ := h
    exact ⟨b, s, rfl, DReps.keep k h⟩
  | .fn g c a :: r, _, h => by
    obtain ⟨cs, as, s, rfl, h1, h2, h3⟩ := h
    exact ⟨cs, as, s, rfl, Reps.keep k _ _ h1, Reps.keep k _ _ h2, DReps.keep k h3⟩
theorem AAgree.move (h : AAgree F w n ae a) (e : Ev F L w F' L' w') (aw : AW F L w) : AAgree F' w' n ae a :=
  ⟨h.size, fun i => (h.tmp i).ev e aw, h.dfr.keep (e.keeps aw)⟩
theorem rep_top {v : Value} : Rep F w .top v := by rw [Rep]; trivial
theorem AAgree.ev (h : AAgree F w n ae a) (x : Operand) : Rep F w (ae.ev x) (a.eval x) := by
  cases x with
  | tmp t => exact h.tmp t
  | const v =>
    show Rep F w (cvD v) v
    unfold cvD
    split
    · rename_i cs
      split
      · rename_i ho
        rw [Rep]
        refine ⟨cs.toList, by simp, ?_⟩
        rw [← vals_eq]
        exact reps_vals fun v hv => okv_of (List.all_eq_true.1 ho v hv)
      · exact rep_top
    · split
      · rename_i ho; exact rep_val (okv_of ho)
      · exact rep_top
  | global g => exact rep_val trivial
  | func f =>
    show Rep F w (.fn f [] []) (.func (.func f) #[] #[])
    rw [Rep]
    exact ⟨[], [], rfl, reps_nil, reps_nil⟩
theorem AEnv.get_put (e : AEnv) (d : Nat) (v : D) (i : Nat) : (e.put (some d) v).get i = if i = d then v else e.get i := by
  simp only [AEnv.put, Bool.cond_eq_ite]
  by_cases h : i = d
  · simp [h]
  · rw [if_neg h, if_neg (by simp [Nat.beq_eq, h])]
theorem AEnv.dfr_put (e : AEnv) (d : Option Tmp) (v : D) : (e.put d v).dfr = e.dfr := by cases d <;> rfl
theorem put_get (a : Act) (n : Nat) (h : a.tmps.size = n) (d : Nat) (hd : d < n) (v : Value) (i : Nat) : (a.put (some d) v).tmps.getD i undef = if i = d then v else a.tmps.getD i undef := by
  have hl : d < a.tmps.size := by rw [h]; exact hd
  simp only [Act.put, Array.getD_eq_getD_getElem?, Array.getElem?_setIfInBounds]
  by_cases hi : i = d
  · subst hi; simp [hl]
  · rw [if_neg (fun hh => hi hh.symm), if_neg hi]
theorem AAgree.put (h : AAgree F w n ae a) {d : Option Tmp} (hd : ∀ x, d = some x → x < n) {x : D} {v : Value} (hv : Rep F w x v) : AAgree F w n (ae.put d x) (a.put d v) := by
  cases d with
  | none => exact h
  | some d =>
    refine ⟨by simp [Act.put, h.size], fun i => ?_, h.dfr⟩
    rw [AEnv.get_put, put_get a n h.size d (hd d rfl) v i]
    split
    · exact hv
    · exact h.tmp i
theorem asame_put (h : AAgree F w n ae a) {d : Option Tmp} (hd : ∀ x, d = some x → x < n) (v : Value) (E : List Nat) (he : ∀ x, d = some x → x ∈ E) : ASame E a (a.put d v) := fun i hi => by
  cases d with
  | none => rfl
  | some d => rw [put_get a n h.size d (hd d rfl) v i, if_neg]; rintro rfl; exact hi (he i rfl)
theorem ASame.refl (E : List Nat) (a : Act) : ASame E a a := fun _ _ => rfl
theorem ASame.trans {E : List Nat} {a a' a'' : Act} (h : ASame E a a') (h' : ASame E a' a'') : ASame E a a'' := fun i hi => (h' i hi).trans (h i hi)
theorem ASame.mono {D E : List Nat} {a a' : Act} (h : ASame D a a') (hs : ∀ i ∈ D, i ∈ E) : ASame E a a' := fun i hi => h i fun hh => hi (hs i hh)
theorem amix_get (e : AEnv) (E : List Nat) (i : Nat) : (e.mix E).get i = if i ∈ E then .top else e.get i := by
  simp only [AEnv.mix, Bool.cond_eq_ite, mem_iff]
theorem pos_lt : ∀ (V : List Nat) (i j q : Nat), pos i V j = some q → j ≤ q ∧ V[q - j]? = some i
  | [], _, _, _, h => by cases h
  | d :: V, i, j, q, h => by
    simp only [pos, Bool.cond_eq_ite] at h
    split at h
    · rename_i hi
      rw [Nat.beq_eq] at hi
      injection h with h
      subst h; subst hi
      exact ⟨Nat.le_refl _, by simp⟩
    · obtain ⟨h1, h2⟩ := pos_lt V i (j + 1) q h
      refine ⟨by omega, ?_⟩
      rw [show q - j = (q - (j + 1)) + 1 by omega]
      simpa using h2
theorem amapG_ok {ae : AEnv} {a : Act} (h : AAgree F w n ae a) : ∀ V : List Nat, Reps F w (amapG ae V) (V.map fun d => a.tmps.getD d undef)
  | [] => reps_nil
  | d :: V => reps_cons (h.tmp d) (amapG_ok h V)
theorem AAgree.join {E : List Nat} (h0 : ∀ i, i ∉ E → Rep F' w' (ae.get i) (a.tmps.getD i undef)) {a' : Act} (hz : a'.tmps.size = n) (V : List Nat) {vs : List D} (hv : Reps F' w' vs (V.map fun d => a'.tmps.getD d undef)) (hs : ASame E a a')
    (hd : DReps F' w' ae.dfr a'.defers) : AAgree F' w' n ((ae.mix E).putL V vs) a' := by
  refine ⟨hz, fun i => ?_, hd⟩
  show Rep F' w' (match pos i V 0 with | some j => aix vs j | none => (ae.mix E).get i) _
  cases hp : pos i V 0 with
  | some q =>
    obtain ⟨_, h2⟩ := pos_lt V i 0 q hp
    simp only
    have h3 : (V.map fun d => a'.tmps.getD d undef)[q]? = some (a'.tmps.getD i undef) := by
      rw [List.getElem?_map]
      rw [Nat.sub_zero] at h2
      rw [h2]; rfl
    unfold aix
    rw [List.getD_eq_getElem?_getD]
    cases hq : vs[q]? with
    | none => exact rep_top
    | some d =>
      obtain ⟨v, h4, h5⟩ := hv.get hq
      rw [h3] at h4
      injection h4 with h4
      rw [h4]; exact h5
  | none =>
    simp only
    rw [amix_get]
    split
    · exact rep_top
    · rename_i hE
      rw [hs i hE]
      exact h0 i hE
theorem AAgree.joinG {E : List Nat} {ae' : AEnv} {a' : Act} (h0 : AAgree F w n ae a) (e : Ev F L w F' L' w') (aw : AW F L w) (aw' : AW F' L' w') (h : AAgree F' w' n ae' a') (V : List Nat) (hs : ASame E a a') (hd : a'.defers = a.defers)
    {vs : List D} {L2 : List Bx} (hg : Gl (amapG ae' V) L' vs L2) : ∃ F2, Ev F L w F2 L2 w' ∧ AW F2 L2 w' ∧ AAgree F2 w' n ((ae.mix E).putL V vs) a' := by
  obtain ⟨F2, e2, aw2, r2⟩ := hg F' w' _ aw' (amapG_ok h V)
  have e3 := e.trans e2
  exact ⟨F2, e3, aw2, AAgree.join (a := a) (fun i _ => (h0.tmp i).ev e3 aw) h.size V r2 hs (by rw [hd]; exact h0.dfr.keep (e3.keeps aw))⟩
theorem acnd_spec {c : D} {A B : Prop} {v : Value} (h : acnd c A B) (hr : Rep F w c v) : ∃ t, c = .val (.bool t) ∧ v = .bool t ∧ (t = true → A) ∧ (t = false → B) := by
  unfold acnd at h
  split at h
  · rename_i t
    obtain ⟨rfl, _⟩ := rep_val_iff.1 hr
    cases t
    · exact ⟨false, rfl, rfl, (fun h => by cases h), fun _ => h⟩
    · exact ⟨true, rfl, rfl, fun _ => h, (fun h => by cases h)⟩
  · exact h.elim

theorem aopV_sound {k : AEnv → List Bx → Prop} {kp : D → List Bx → Prop} {next : Act → World → Prop} {Q : Exit → Act → World → Prop}
    (h : aopV P o ae L k kp) (aw : AW F L w) (ha : AAgree F w n ae a) (hd : ∀ x, o.dst = some x → x < n)
    (hk : ∀ ae' L' F' a' w', k ae' L' → Ev F L w F' L' w' → AW F' L' w' → AAgree F' w' n ae' a' → ASame (dstsO [o]) a a' → ((∀ c, o.op ≠ .defer c) → a'.defers = a.defers) → next a' w')
    (hp : ∀ d L' F' w' v, kp d L' → Ev F L w F' L' w' → AW F' L' w' → Rep F' w' d v → Q (.panic [{ v := v, recovered := false }]) a w') : o.wp P a w next Q := by
  unfold Oper.wp
  by_cases hdef : ∃ c, o.op = .defer c
  · obtain ⟨c, hc⟩ := hdef
    simp only [aopV, hc] at h
    split at h
    case h_2 => exact h.elim
    rename_i f hf
    split at h
    case h_2 => exact h.elim
    rename_i g first cap hv
    have hfr := ha.ev f
    rw [hv, Rep] at hfr
    obtain ⟨as, cs, hfe, h1, h2⟩ := hfr
    have hargs := mapO_ok (F := F) (w := w) (ρ := ae.ev) (ρc := a.eval) (l := c.args.toList) (fun x _ => ha.ev x)
    have hr : (execOp a.eval o).run P w = .ok (.defer { target := .fn (.func g) cs.toArray, args := (as ++ c.args.toList.map a.eval).toArray }) w := by
      have he : as.toArray ++ c.args.map a.eval = (as ++ c.args.toList.map a.eval).toArray := by apply Array.toList_inj.1; simp
      unfold execOp
      simp [hc, resolve, hf, Deferred.ofValue, hfe, he]
    rw [hr, Oper.upon_defer]
    have hput := ha.put hd (rep_val (F := F) (w := w) (v := undef) trivial)
    refine hk _ _ F _ _ h (Ev.refl ..) aw ⟨?_, ?_, ?_⟩ ?_ (fun hh => absurd hc (hh c))
    · rw [← hput.size]; cases o.dst <;> rfl
    · intro i
      have := hput.tmp i
      cases hdd : o.dst <;> rw [hdd] at this <;> exact this
    · refine ⟨cs, as ++ c.args.toList.map a.eval, a.defers, ?_, h2, h1.append hargs, ha.dfr⟩
      cases o.dst <;> rfl
    · intro i hi
      have := asame_put ha hd undef (dstsO [o]) (fun x hx => dstsO_mem hx) i hi
      cases hdd : o.dst <;> rw [hdd] at this <;> exact this
  · have hop : aopV P o ae L k kp = aopK P false o.type o.op ae.ev L (fun v L' => k (ae.put o.dst v) L') kp := by
      unfold aopV
      split
      · rename_i c hc; exact absurd ⟨c, hc⟩ hdef
      · rw [aopQ_eq]
    rw [hop] at h
    have hkk : ∀ d L' v w' F', k (ae.put o.dst d) L' → Ev F L w F' L' w' → AW F' L' w' → Rep F' w' d v → next (a.put o.dst v) w' := fun d L' v w' F' h1 h2 h3 h4 =>
      hk _ _ F' _ _ h1 h2 h3 ((ha.move h2 aw).put hd h4) (asame_put ha hd v _ fun x hx => dstsO_mem hx) (fun _ => by cases o.dst <;> rfl)
    have hout := opK_sound (aopK_sound (ρc := a.eval) (kc := fun v w' => next (a.put o.dst v) w') (kpc := fun c w' => Q (.panic c) a w') h aw (fun x _ => ha.ev x) hkk (fun d L' v w' F' h1 h2 h3 h4 => hp d L' F' w' v h1 h2 h3 h4))
    generalize (execOp a.eval o).run P w = r at hout
    cases hout with
    | value v w' h => rw [Oper.upon_value]; exact h
    | skip w' h => rw [Oper.upon_skip]; exact h
    | enter g args h =>
      rw [Oper.upon_enter]
      refine h.mono fun x w' hx => ?_
      cases x with
      | returned v => exact hx
      | panicked c => exact hx
      | outgrown => exact hx.elim
    | panic v w' h => rw [Oper.upon_panic]; exact h

theorem aput_same {d : Nat} {v : D} (h : ae.get d = v) : ae.put (some d) v = ae := by
  obtain ⟨g, f⟩ := ae
  simp only [AEnv.put, AEnv.mk.injEq, and_true]
  funext i
  rw [Bool.cond_eq_ite]
  split
  · rename_i hi
    rw [Nat.beq_eq] at hi
    rw [hi]; exact h.symm
  · rfl
theorem aopsV_sound {an : Nat → Option (List Nat)} {ops : Array Oper} : ∀ (fuel : Nat) (nj : List Nat) (l : List Oper) (ae : AEnv) (L : List Bx) (F : Nat → Prop) (w : World) (a : Act) (Q : AX → AEnv → List Bx → Prop),
    aopsV P an ops fuel nj l ae L Q → AW F L w → AAgree F w n ae a → lt n (dstsO l) → (noDefO l = true ∨ ∀ k, an k = none) → ∀ (suf : List Oper) (Qa : Exit → Act → World → Prop),
    (∀ ae' L' F' a' w', Q .normal ae' L' → Ev F L w F' L' w' → AW F' L' w' → AAgree F' w' n ae' a' → ASame (dstsO l) a a' → (noDefO l = true → a'.defers = a.defers) → wpList P ops Qa suf a' w') →
    (∀ d ae' L' F' a' w' v, Q (.panic d) ae' L' → Ev F L w F' L' w' → AW F' L' w' → Rep F' w' d v → DReps F' w' ae'.dfr a'.defers → ASame (dstsO l) a a' → Qa (.panic [{ v := v, recovered := false }]) a' w') → wpList P ops Qa (l ++ suf) a w := by
  intro fuel
  induction fuel with
  | zero => intro nj l ae L F w a Q h; exact h.elim
  | succ fuel ih =>
    intro nj l ae L F w a Q h aw ha hl hnd suf Qa hn hx
    cases l with
    | nil => exact hn ae L F a w h (Ev.refl ..) aw ha (ASame.refl _ _) (fun _ => rfl)
    | cons o r =>
      unfold aopsV at h
      split at h
      · -- a joint
        rename_i G q pd rest hj
        unfold joint at hj
        split at hj
        case h_2 => cases hj
        rename_i d want hg
        split at hj
        case h_2 => cases hj
        rename_i G' q' rest' ht
        split at hj
        case h_2 => cases hj
        rename_i pd' hpd
        split at hj
        case h_2 => cases hj
        rename_i Lx hL
        rw [Bool.cond_eq_ite] at hj
        split at hj
        · cases hj
        simp only [Option.some.injEq, Prod.mk.injEq] at hj
        obtain ⟨rfl, rfl, rfl, rfl⟩ := hj
        have happ := takeG_app ops d want [] (o :: r)
        rw [ht] at happ
        have hls : o :: r = (G' ++ [q']) ++ rest' := by rw [← happ]; simp
        have hnd' : noDefO ((G' ++ [q']) ++ rest') = true := by
          rw [← hls]
          rcases hnd with h | h
          · exact h
          · rw [h] at hL; cases hL
        rw [noDefO_app, Bool.and_eq_true] at hnd'
        unfold ajn at h
        obtain ⟨J, hF, hG⟩ := h
        rw [hls] at hl hn hx ⊢
        rw [List.append_assoc]
        have hl1 : lt n (dstsO (G' ++ [q'])) := fun x hx => hl x ((dstsO_app _ _ x).2 (.inl hx))
        have hl2 : lt n (dstsO rest') := fun x hx => hl x ((dstsO_app _ _ x).2 (.inr hx))
        refine ih _ _ ae L F w a _ hG aw ha hl1 (.inl hnd'.1) (rest' ++ suf) Qa ?_ ?_
        · intro ae' L' F' a' w' hJ he haw ha' hs hdf
          obtain ⟨vs', L2', hg, hJ⟩ := hJ
          have hF' := hF vs' L2' hJ
          obtain ⟨F2', he, haw, haj⟩ := ha.joinG he aw haw ha' [pd'] hs (hdf hnd'.1) hg
          refine ih _ _ _ L2' F2' w' a' _ hF' haw haj hl2 (.inl hnd'.2) suf Qa ?_ ?_
          · intro ae2 L2 F2 a2 w2 hq he2 haw2 ha2 hs2 hd2
            refine hn ae2 L2 F2 a2 w2 hq (he.trans he2) haw2 ha2 (fun i hi => ?_) (fun _ => (hd2 hnd'.2).trans (hdf hnd'.1))
            rw [dstsO_app, not_or] at hi
            rw [hs2 i hi.2, hs i hi.1]
          · intro d ae2 L2 F2 a2 w2 v hq he2 haw2 hr2 hd2 hs2
            refine hx d ae2 L2 F2 a2 w2 v hq (he.trans he2) haw2 hr2 hd2 (fun i hi => ?_)
            rw [dstsO_app, not_or] at hi
            rw [hs2 i hi.2, hs i hi.1]
        · intro d ae2 L2 F2 a2 w2 v hq he2 haw2 hr2 hd2 hs2
          refine hx d ae2 L2 F2 a2 w2 v hq he2 haw2 hr2 hd2 (fun i hi => ?_)
          rw [dstsO_app, not_or] at hi
          exact hs2 i hi.1
      · -- none
        have hd : ∀ x, o.dst = some x → x < n := fun x hx => hl x (dstsO_mem hx)
        have hlr : lt n (dstsO r) := fun x hx => hl x (dstsO_tail hx)
        have hndr : noDefO r = true ∨ ∀ k, an k = none := hnd.imp (fun h => (noDefO_cons h).2) id
        -- one that is done
        have go : Region.wanted o (yielded ops a.tmps) = true →
            aopV P o ae L (fun e' L' => aopsV P an ops fuel nj r e' L' Q) (fun c L' => Q (.panic c) ae L') → wpList P ops Qa (o :: r ++ suf) a w := by
          intro hw hop
          refine wpList_wanted hw (aopV_sound hop aw ha hd ?_ ?_)
          · intro ae' L' F' a' w' hk he haw ha' hs hdf
            refine ih nj r ae' L' F' w' a' Q hk haw ha' hlr hndr suf Qa ?_ ?_
            · intro ae2 L2 F2 a2 w2 hq he2 haw2 ha2 hs2 hd2
              refine hn ae2 L2 F2 a2 w2 hq (he.trans he2) haw2 ha2 (fun i hi => ?_) (fun hno => ?_)
              · have h1 : i ∉ dstsO r := fun hh => hi (dstsO_tail hh)
                have h2 : i ∉ dstsO [o] := fun hh => hi (by
                  simp only [dstsO] at hh ⊢
                  cases ho : o.dst with
                  | none => rw [ho] at hh; cases hh
                  | some q => rw [ho] at hh; simp at hh; simp [hh])
                rw [hs2 i h1, hs i h2]
              · rw [hd2 (noDefO_cons hno).2, hdf (noDefO_cons hno).1]
            · intro d ae2 L2 F2 a2 w2 v hq he2 haw2 hr2 hd2 hs2
              refine hx d ae2 L2 F2 a2 w2 v hq (he.trans he2) haw2 hr2 hd2 (fun i hi => ?_)
              have h1 : i ∉ dstsO r := fun hh => hi (dstsO_tail hh)
              have h2 : i ∉ dstsO [o] := fun hh => hi (by
                simp only [dstsO] at hh ⊢
                cases ho : o.dst with
                | none => rw [ho] at hh; cases hh
                | some q => rw [ho] at hh; simp at hh; simp [hh])
              rw [hs2 i h1, hs i h2]
          · intro d L' F' w' v hq he haw hr
            exact hx d ae L' F' a w' v hq he haw hr (ha.dfr.keep (he.keeps aw)) (ASame.refl _ _)
        -- those that are passed by
        have skip : ∀ (d : Nat) (want : Bool), (envOf a).get d ≠ .bool want →
            aopsV P an ops fuel nj (takeG ops d want [] (o :: r)).2 (ae.mix (dstsO (takeG ops d want [] (o :: r)).1)) L Q → wpList P ops Qa (o :: r ++ suf) a w := by
          intro d want hne hop
          have happ := takeG_app ops d want [] (o :: r)
          have hl' : lt n (dstsO ((takeG ops d want [] (o :: r)).1 ++ (takeG ops d want [] (o :: r)).2)) := by rw [happ]; exact hl
          have hnd2 : noDefO (takeG ops d want [] (o :: r)).2 = true ∨ ∀ k, an k = none := hnd.imp (fun h => by
            rw [← happ, noDefO_app, Bool.and_eq_true] at h; exact h.2) id
          refine skip_sound (o :: r) suf [] (envOf a) a ha.agree (fun x hx => hl' x ((dstsO_app _ _ x).2 (.inl hx))) hne (fun x hx => by cases hx) ?_
          intro a' ha'
          have hs1 : ASame (dstsO (takeG ops d want [] (o :: r)).1) a a' := fun i hi => by rw [ha'.tmp i, mix_get, if_neg hi]; rfl
          have hd1 : a'.defers = a.defers := ha'.dfr
          have haa : AAgree F w n (ae.mix (dstsO (takeG ops d want [] (o :: r)).1)) a' := by
            refine ⟨ha'.size, fun i => ?_, by rw [hd1]; exact ha.dfr⟩
            rw [amix_get]
            split
            · exact rep_top
            · rename_i hi; rw [hs1 i hi]; exact ha.tmp i
          refine ih nj _ _ L F w a' Q hop aw haa (fun x hx => hl' x ((dstsO_app _ _ x).2 (.inr hx))) hnd2 suf Qa ?_ ?_
          rotate_left
          · intro d ae2 L2 F2 a2 w2 v hq he2 haw2 hr2 hd2 hs2
            refine hx d ae2 L2 F2 a2 w2 v hq he2 haw2 hr2 hd2 (fun i hi => ?_)
            rw [← happ, dstsO_app, not_or] at hi
            rw [hs2 i hi.2, hs1 i hi.1]
          intro ae2 L2 F2 a2 w2 hq he2 haw2 ha2 hs2 hd2
          refine hn ae2 L2 F2 a2 w2 hq he2 haw2 ha2 (fun i hi => ?_) (fun hno => ?_)
          · rw [← happ, dstsO_app, not_or] at hi
            rw [hs2 i hi.2, hs1 i hi.1]
          · rw [← happ, noDefO_app, Bool.and_eq_true] at hno
            rw [hd2 hno.2]
            exact hd1
        have wd : ∀ (d : Nat) (want : Bool), gdst ops o = some (some d, want) → (Region.wanted o (yielded ops a.tmps) = true ↔ (envOf a).get d = .bool want) := fun d want hg => wanted_of hg ha.agree
        split at h
        · rename_i hg
          exact go (by simp [Region.wanted, gdst_none hg]) h
        · rename_i d hg
          obtain ⟨t, hc, ht, h1, h2⟩ := acnd_spec h (ha.tmp d)
          cases t with
          | true => have := h1 rfl; rw [aput_same hc] at this; exact go ((wd d true hg).2 ht) this
          | false => have := h2 rfl; rw [aput_same hc] at this; exact skip d true (by show a.tmps.getD d undef ≠ _; rw [ht]; simp) this
        · rename_i d hg
          obtain ⟨t, hc, ht, h1, h2⟩ := acnd_spec h (ha.tmp d)
          cases t with
          | true => have := h1 rfl; rw [aput_same hc] at this; exact skip d false (by show a.tmps.getD d undef ≠ _; rw [ht]; simp) this
          | false => have := h2 rfl; rw [aput_same hc] at this; exact go ((wd d false hg).2 ht) this
        · exact h.elim

def DrawsOk (P : Program) (n : Nat) (A : An) : Code → Prop
  | .region i ops true => ∀ (p : Plan), plOf A.p i = some p → ∀ (ae : AEnv) (L : List Bx) (F : Nat → Prop) (w : World) (a : Act) (Q : AX → AEnv → List Bx → Prop) (Qa : Exit → Act → World → Prop),
      adraw P ops p [] [] [] ae L Q → AW F L w → AAgree F w n ae a →
      (∀ ae' L' F' a' w', Q .normal ae' L' → Ev F L w F' L' w' → AW F' L' w' → AAgree F' w' n ae' a' → ASame (dstsO ops.toList) a a' → a'.defers = a.defers → Qa .normal a' w') →
      (∀ d ae' L' F' a' w' v, Q (.panic d) ae' L' → Ev F L w F' L' w' → AW F' L' w' → Rep F' w' d v → DReps F' w' ae'.dfr a'.defers → ASame (dstsO ops.toList) a a' → Qa (.panic [{ v := v, recovered := false }]) a' w') → (Code.region i ops true).wp P Qa a w
  | .seq x y => DrawsOk P n A x ∧ DrawsOk P n A y
  | .cond _ x y => DrawsOk P n A x ∧ DrawsOk P n A y
  | .block _ c => DrawsOk P n A c
  | .loop c => DrawsOk P n A c
  | _ => True
def xOf : AX → Exit
  | .normal => .normal
  | .exit i => .exit i
  | .ret => .ret
  | .panic _ => .normal
def isPan : AX → Bool
  | .panic _ => true
  | _ => false
structure Sta (n : Nat) where
  vs : List D
  L : List Bx
theorem least {p : Nat → Prop} : ∀ n, p n → ∃ m, p m ∧ ∀ k, p k → m ≤ k := by
  intro n
  induction n using Nat.strongRecOn with
  | ind n ih =>
    intro hn
    by_cases h : ∃ k, k < n ∧ p k
    · obtain ⟨k, hk, hp⟩ := h
      exact ih k hk hp
    · exact ⟨n, hn, fun k hk => Nat.le_of_not_lt fun hl => h ⟨k, hl, hk⟩⟩
theorem wp_loop_of {σ : Type} {c : Code} {a0 : Act} {w0 : World} {Q : Exit → Act → World → Prop} (I : σ → Act → World → Prop) (μ : σ → Nat) (x0 : σ) (h0 : I x0 a0 w0)
    (h : ∀ x a w, I x a w → ∀ Qr : Exit → Act → World → Prop, (∀ y a' w', I y a' w' → μ y < μ x → Qr .normal a' w') → (∀ z a' w', z ≠ .normal → Q z a' w' → Qr z a' w') → c.wp P Qr a w) : (Code.loop c).wp P Q a0 w0 := by
  classical
  have hex : ∀ a w, (∃ x, I x a w) → ∃ m, (∃ x, I x a w ∧ μ x = m) ∧ ∀ k, (∃ x, I x a w ∧ μ x = k) → m ≤ k :=
    fun a w ⟨x, hx⟩ => least (p := fun m => ∃ x, I x a w ∧ μ x = m) (μ x) ⟨x, hx, rfl⟩
  refine wp_loop (fun a w => ∃ x, I x a w) (fun a w => if hh : ∃ x, I x a w then (hex a w hh).choose else 0) ⟨x0, h0⟩ ?_
  rintro a1 w1 hI
  obtain ⟨⟨x, hx, hμ⟩, hmin⟩ := (hex a1 w1 hI).choose_spec
  refine h x a1 w1 hx _ ?_ ?_
  · intro y a' w' hy hlt
    have h2 : ∃ z, I z a' w' := ⟨y, hy⟩
    refine ⟨h2, ?_⟩
    simp only [dif_pos h2, dif_pos hI]
    have h3 := (hex _ _ h2).choose_spec.2 (μ y) ⟨y, hy, rfl⟩
    omega
  · intro z a' w' hz hq
    cases z with
    | normal => exact absurd rfl hz
    | _ => exact hq
end
end Go.V
set_option linter.unusedVariables false
namespace Go.V
open Go
section
variable {P : Program} {n : Nat}
theorem aex_sound {A : An} : ∀ (c : Code) (ae : AEnv) (L : List Bx) (F : Nat → Prop) (w : World) (a : Act) (Q : AX → AEnv → List Bx → Prop), aex P A c ae L Q → AW F L w → AAgree F w n ae a → lt n (dsts c) → (noDef c = true ∨ A.j = []) → DrawsOk P n A c →
    ∀ (Qa : Exit → Act → World → Prop), (∀ ax ae' L' F' a' w', isPan ax = false → Q ax ae' L' → Ev F L w F' L' w' → AW F' L' w' → AAgree F' w' n ae' a' → ASame (dsts c) a a' → (noDef c = true → a'.defers = a.defers) → Qa (xOf ax) a' w') →
    (∀ d ae' L' F' a' w' v, Q (.panic d) ae' L' → Ev F L w F' L' w' → AW F' L' w' → Rep F' w' d v → DReps F' w' ae'.dfr a'.defers → ASame (dsts c) a a' → Qa (.panic [{ v := v, recovered := false }]) a' w') → c.wp P Qa a w := by
  intro c
  induction c with
  | skip => intro ae L F w a Q h aw ha _ _ _ Qa hn _; exact wp_skip (hn .normal ae L F a w rfl h (Ev.refl ..) aw ha (ASame.refl _ _) fun _ => rfl)
  | label l => intro ae L F w a Q h aw ha _ _ _ Qa hn _; exact wp_label (hn .normal ae L F a w rfl h (Ev.refl ..) aw ha (ASame.refl _ _) fun _ => rfl)
  | exit id => intro ae L F w a Q h aw ha _ _ _ Qa hn _; exact wp_exit (hn (.exit id) ae L F a w rfl h (Ev.refl ..) aw ha (ASame.refl _ _) fun _ => rfl)
  | ret => intro ae L F w a Q h aw ha _ _ _ Qa hn _; exact wp_ret (hn .ret ae L F a w rfl h (Ev.refl ..) aw ha (ASame.refl _ _) fun _ => rfl)
  | rangeFunc => intro ae L F w a Q h; exact h.elim
  | scope => intro ae L F w a Q h; exact h.elim
  | goto => intro ae L F w a Q h; exact h.elim
  | refuse => intro ae L F w a Q h; exact h.elim
  | region i ops draw =>
    intro ae L F w a Q h aw ha hl hnd hdr Qa hn hx
    unfold aex at h
    cases draw with
    | false =>
      refine wp_region_list ?_
      have := aopsV_sound (P := P) 1000 [] ops.toList ae L F w a Q h aw ha hl (hnd.imp id fun hA => by rw [hA]; exact anOf_nil) [] Qa
        (fun ae' L' F' a' w' hq he haw ha' hs hd => hn .normal ae' L' F' a' w' rfl hq he haw ha' hs hd) hx
      simpa using this
    | true =>
      simp only [pcond] at h
      split at h
      case h_2 => exact h.elim
      rename_i p hp
      exact hdr p hp ae L F w a Q Qa h aw ha (fun ae' L' F' a' w' hq he haw ha' hs hd => hn .normal ae' L' F' a' w' rfl hq he haw ha' hs fun _ => hd) hx
  | cond c x y ihx ihy =>
    intro ae L F w a Q h aw ha hl hnd hdr Qa hn hx
    unfold aex at h
    obtain ⟨t, hcv, ht, h1, h2⟩ := acnd_spec h (ha.ev c)
    refine wp_cond ht ?_
    have hx1 : ∀ i, i ∈ dsts x → i ∈ dsts (.cond c x y) := fun i hi => by simp [dsts, hi]
    have hy1 : ∀ i, i ∈ dsts y → i ∈ dsts (.cond c x y) := fun i hi => by simp [dsts, hi]
    cases t with
    | true =>
      exact ihx ae L F w a Q (h1 rfl) aw ha (fun i hi => hl i (hx1 i hi)) (hnd.imp (fun h => by simp only [noDef, Bool.and_eq_true] at h; exact h.1) id) hdr.1 Qa
        (fun ax ae' L' F' a' w' hne hq he haw ha' hs hd => hn ax ae' L' F' a' w' hne hq he haw ha' (hs.mono hx1) fun h => hd (by simp only [noDef, Bool.and_eq_true] at h; exact h.1)) (fun d ae' L' F' a' w' v hq he haw hr hd hs => hx d ae' L' F' a' w' v hq he haw hr hd (hs.mono hx1))
    | false =>
      exact ihy ae L F w a Q (h2 rfl) aw ha (fun i hi => hl i (hy1 i hi)) (hnd.imp (fun h => by simp only [noDef, Bool.and_eq_true] at h; exact h.2) id) hdr.2 Qa
        (fun ax ae' L' F' a' w' hne hq he haw ha' hs hd => hn ax ae' L' F' a' w' hne hq he haw ha' (hs.mono hy1) fun h => hd (by simp only [noDef, Bool.and_eq_true] at h; exact h.2)) (fun d ae' L' F' a' w' v hq he haw hr hd hs => hx d ae' L' F' a' w' v hq he haw hr hd (hs.mono hy1))
  | block id c ih =>
    intro ae L F w a Q h aw ha hl hnd hdr Qa hn hx
    unfold aex at h
    refine wp_block (ih ae L F w a _ h aw ha hl hnd hdr _ ?_ ?_)
    · intro ax ae' L' F' a' w' hne hq he haw ha' hs hd
      cases ax with
      | exit i =>
        simp only [pcond_eq, Bool.cond_eq_ite, Nat.beq_eq] at hq
        simp only [xOf, Exit.inBlock]
        split
        · rename_i hi; rw [if_pos hi] at hq; exact hn .normal ae' L' F' a' w' rfl hq he haw ha' hs hd
        · rename_i hi; rw [if_neg hi] at hq; exact hn (.exit i) ae' L' F' a' w' rfl hq he haw ha' hs hd
      | panic d => cases hne
      | normal => exact hn .normal ae' L' F' a' w' rfl hq he haw ha' hs hd
      | ret => exact hn .ret ae' L' F' a' w' rfl hq he haw ha' hs hd
    · intro d ae' L' F' a' w' v hq he haw hr hd hs
      exact hx d ae' L' F' a' w' v hq he haw hr hd hs
  | seq x y ihx ihy =>
    intro ae L F w a Q h aw ha hl hnd hdr Qa hn hx
    have hx1 : ∀ i, i ∈ dsts x → i ∈ dsts (.seq x y) := fun i hi => by simp [dsts, hi]
    have hy1 : ∀ i, i ∈ dsts y → i ∈ dsts (.seq x y) := fun i hi => by simp [dsts, hi]
    have hndx : noDef x = true ∨ A.j = [] := hnd.imp (fun h => by simp only [noDef, Bool.and_eq_true] at h; exact h.1) id
    have hndy : noDef y = true ∨ A.j = [] := hnd.imp (fun h => by simp only [noDef, Bool.and_eq_true] at h; exact h.2) id
    unfold aex at h
    split at h
    · rename_i V hV
      rw [pcond_eq, Bool.cond_eq_ite] at h
      split at h
      case isFalse => exact h.elim
      rename_i hsub
      obtain ⟨J, hF, hG⟩ := h
      have hnx : noDef x = true := hndx.resolve_right (fun hA => by rw [hA] at hV; cases hV)
      refine wp_seq (ihx ae L F w a _ hG aw ha (fun i hi => hl i (hx1 i hi)) hndx hdr.1 _ ?_ ?_)
      · intro z ae' L' F' a' w' hne hq he haw ha' hs hd
        cases z with
        | normal =>
          obtain ⟨vs', L2', hg, hJ⟩ := hq
          obtain ⟨F2', he, haw, haj⟩ := ha.joinG he aw haw ha' V hs (hd hnx) hg
          refine ihy _ L2' F2' w' a' Q (hF _ L2' hJ) haw haj (fun i hi => hl i (hy1 i hi)) hndy hdr.2 Qa ?_ ?_
          · intro z2 e2 L2 F2 a2 w2 hne2 hq2 he2 haw2 ha2 hs2 hd2
            refine hn z2 e2 L2 F2 a2 w2 hne2 hq2 (he.trans he2) haw2 ha2 (fun i hi => ?_) (fun hno => ?_)
            · rw [hs2 i (fun hh => hi (hy1 i hh)), hs i (fun hh => hi (hx1 i hh))]
            · simp only [noDef, Bool.and_eq_true] at hno
              exact (hd2 hno.2).trans (hd hnx)
          · intro d e2 L2 F2 a2 w2 v hq2 he2 haw2 hr2 hd2 hs2
            exact hx d e2 L2 F2 a2 w2 v hq2 (he.trans he2) haw2 hr2 hd2 ((hs.mono hx1).trans (hs2.mono hy1))
        | panic d => cases hne
        | exit i => exact hn (.exit i) ae' L' F' a' w' rfl hq he haw ha' (hs.mono hx1) fun _ => hd hnx
        | ret => exact hn .ret ae' L' F' a' w' rfl hq he haw ha' (hs.mono hx1) fun _ => hd hnx
      · intro d e2 L2 F2 a2 w2 v hq2 he2 haw2 hr2 hd2 hs2
        exact hx d e2 L2 F2 a2 w2 v hq2 he2 haw2 hr2 hd2 (hs2.mono hx1)
    · refine wp_seq (ihx ae L F w a _ h aw ha (fun i hi => hl i (hx1 i hi)) hndx hdr.1 _ ?_ ?_)
      · intro z ae' L' F' a' w' hne hq he haw ha' hs hd
        have hd' : noDef (.seq x y) = true → a'.defers = a.defers := fun h => hd (by simp only [noDef, Bool.and_eq_true] at h; exact h.1)
        cases z with
        | normal =>
          refine ihy ae' L' F' w' a' Q hq haw ha' (fun i hi => hl i (hy1 i hi)) hndy hdr.2 Qa ?_ ?_
          · intro z2 e2 L2 F2 a2 w2 hne2 hq2 he2 haw2 ha2 hs2 hd2
            refine hn z2 e2 L2 F2 a2 w2 hne2 hq2 (he.trans he2) haw2 ha2 (fun i hi => ?_) (fun hno => ?_)
            · rw [hs2 i (fun hh => hi (hy1 i hh)), hs i (fun hh => hi (hx1 i hh))]
            · have h2 : noDef y = true := by simp only [noDef, Bool.and_eq_true] at hno; exact hno.2
              rw [hd2 h2, hd' hno]
          · intro d e2 L2 F2 a2 w2 v hq2 he2 haw2 hr2 hd2 hs2
            exact hx d e2 L2 F2 a2 w2 v hq2 (he.trans he2) haw2 hr2 hd2 ((hs.mono hx1).trans (hs2.mono hy1))
        | panic d => cases hne
        | exit i => exact hn (.exit i) ae' L' F' a' w' rfl hq he haw ha' (hs.mono hx1) hd'
        | ret => exact hn .ret ae' L' F' a' w' rfl hq he haw ha' (hs.mono hx1) hd'
      · intro d e2 L2 F2 a2 w2 v hq2 he2 haw2 hr2 hd2 hs2
        exact hx d e2 L2 F2 a2 w2 v hq2 he2 haw2 hr2 hd2 (hs2.mono hx1)
  | loop c ih =>
    intro ae L F w a Q h aw ha hl hnd hdr Qa hn hx
    unfold aex at h
    split at h
    case h_2 => exact h.elim
    rename_i V hV
    rw [pcond_eq, Bool.cond_eq_ite] at h
    split at h
    case isFalse => exact h.elim
    rename_i hsub
    have hnc : noDef c = true := hnd.resolve_right (fun hA => by rw [hA] at hV; cases hV)
    obtain ⟨I, μ, ⟨v0, L0, hg0, hI⟩, hR⟩ := h
    obtain ⟨F0, he0, haw0, ha0⟩ := ha.joinG (E := dsts c) (Ev.refl ..) aw aw ha V (ASame.refl _ _) rfl hg0
    refine wp_loop_of (σ := List D × List Bx × (Nat → Prop))
      (fun x a1 w1 => I x.1 x.2.1 ∧ Ev F L w x.2.2 x.2.1 w1 ∧ AW x.2.2 x.2.1 w1 ∧ AAgree x.2.2 w1 n ((ae.mix (dsts c)).putL V x.1) a1 ∧ ASame (dsts c) a a1 ∧ a1.defers = a.defers) (fun x => μ x.1 x.2.1) (v0, L0, F0)
      ⟨hI, he0, haw0, ha0, ASame.refl _ _, rfl⟩ ?_
    rintro ⟨vs, L1, F1⟩ a1 w1 ⟨hI1, he1, haw1, ha1, hs1, hd1⟩ Qr hr1 hr2
    simp only at hI1 he1 haw1 ha1 hr1
    refine ih _ L1 F1 w1 a1 _ (hR vs L1 hI1) haw1 ha1 hl hnd hdr _ ?_ ?_
    · intro z ae' L' F' a' w' hne hq he haw ha' hs hd
      have hs' := hs1.trans hs
      have hd' := (hd hnc).trans hd1
      have he' := he1.trans he
      cases z with
      | normal =>
        obtain ⟨v2, L2, hg, hq1, hq2⟩ := hq
        obtain ⟨F2, he2, haw2, ha2⟩ := ha.joinG he' aw haw ha' V hs' hd' hg
        exact hr1 (v2, L2, F2) a' w' ⟨hq1, he2, haw2, ha2, hs', hd'⟩ hq2
      | panic d => cases hne
      | exit i => exact hr2 _ a' w' (by simp [xOf]) (hn (.exit i) ae' L' F' a' w' rfl hq he' haw ha' hs' fun _ => hd')
      | ret => exact hr2 _ a' w' (by simp [xOf]) (hn .ret ae' L' F' a' w' rfl hq he' haw ha' hs' fun _ => hd')
    · intro d e2 L2 F2 a2 w2 v hq2 he2 haw2 hr hd2 hs2
      exact hr2 _ a2 w2 (by simp) (hx d e2 L2 F2 a2 w2 v hq2 (he1.trans he2) haw2 hr hd2 (hs1.trans hs2))

theorem aretG_sound {F : Nat → Prop} {L : List Bx} {w : World} (aw : AW F L w) : ∀ (rs : List ResultVar) (ae : AEnv) (a : Act) (k : List D → Prop), aretG P rs ae L k → AAgree F w n ae a →
    ∃ l vs, (rs.mapM (resF a.tmps)).run P w = .ok vs w ∧ Reps F w l vs ∧ k l
  | [], ae, a, k, h, ha => ⟨[], [], by simp, reps_nil, h⟩
  | .tmp t :: rs, ae, a, k, h, ha => by
    simp only [aretG] at h
    obtain ⟨l, vs, hl, hr, hk⟩ := aretG_sound aw rs ae a _ h ha
    refine ⟨ae.get t :: l, a.tmps.getD t undef :: vs, ?_, reps_cons (ha.tmp t) hr, hk⟩
    have h1 : (resF a.tmps (.tmp t)).run P w = .ok (a.tmps.getD t undef) w := by simp only [resF, Sem.run_pure]
    simp only [List.mapM_cons, Sem.run_bind, Sem.run_pure, Result.andThen_ok, h1, hl]
  | .cell x t :: rs, ae, a, k, h, ha => by
    simp only [aretG] at h
    cases hu : P.underlying t with
    | none => simp only [hu] at h
    | some d =>
      simp only [hu] at h
      obtain ⟨i, hi⟩ := info_of_underlying hu
      have hx := ha.tmp x
      cases hg : isAgg d with
      | true =>
        simp only [hg] at h
        have := aldN_ok (kc := fun v => ∃ d, Rep F w d v ∧ aretG P rs ae L fun l => k (d :: l)) h aw hx (fun d r h1 h2 => ⟨d, h2, h1⟩)
        unfold ldN at this
        split at this
        case h_2 => exact this.elim
        rename_i ad hp
        obtain ⟨l0, hl0, hc, d0, hr0, hk⟩ := this
        obtain ⟨l, vs, hl, hr, hk⟩ := aretG_sound aw rs ae a _ hk ha
        refine ⟨d0 :: l, .agg l0.toArray :: vs, ?_, reps_cons hr0 hr, hk⟩
        have hrun : (loadCells ad l0.length).run P w = .ok l0.toArray w := run_loadCells_list (w := w) ad l0 (fun j v hv => by
          obtain ⟨hj, rfl⟩ := List.getElem?_eq_some_iff.1 hv
          exact hc j hj)
        have h1 : (resF a.tmps (.cell x t)).run P w = .ok (.agg l0.toArray) w := by
          simp only [resF, Sem.run_bind, Sem.run_pure, Result.andThen_ok, hp, asAddr, loadVar, run_isAgg hu, hg, if_true, run_sizeOf' hi, ← hl0, hrun]
        simp only [List.mapM_cons, Sem.run_bind, Sem.run_pure, Result.andThen_ok, h1, hl]
      | false =>
        simp only [hg] at h
        have := ald1_ok (kc := fun v => ∃ d, Rep F w d v ∧ aretG P rs ae L fun l => k (d :: l)) h aw hx (fun d r h1 h2 => ⟨d, h2, h1⟩)
        unfold ld1 at this
        split at this
        case h_2 => exact this.elim
        rename_i ad hp
        obtain ⟨v, hc, d0, hr0, hk⟩ := this
        obtain ⟨l, vs, hl, hr, hk⟩ := aretG_sound aw rs ae a _ hk ha
        refine ⟨d0 :: l, v :: vs, ?_, reps_cons hr0 hr, hk⟩
        have h1 : (resF a.tmps (.cell x t)).run P w = .ok v w := by
          simp [resF, hp, asAddr, loadVar, run_isAgg hu, hg, hc]
        simp only [List.mapM_cons, Sem.run_bind, Sem.run_pure, Result.andThen_ok, h1, hl]
theorem atup_ok {F : Nat → Prop} {w : World} {l : List D} {vs : List Value} (h : Reps F w l vs) : Rep F w (atup l) (if h : vs.toArray.size = 1 then vs.toArray[0] else .tuple vs.toArray) := by
  match l, vs, h with
  | [], vs, h =>
    rw [Reps] at h
    subst h
    show Rep F w (.tuple []) (.tuple _)
    rw [Rep]; exact ⟨[], rfl, reps_nil⟩
  | [d], vs, h =>
    obtain ⟨v, rfl, hr⟩ := h.one
    exact hr
  | d :: d' :: l, vs, h =>
    have hlen := h.length
    rw [dif_neg (by simp at hlen ⊢; omega)]
    show Rep F w (.tuple _) _
    rw [Rep]
    exact ⟨vs, rfl, h⟩
theorem reps_getD {F : Nat → Prop} {w : World} : ∀ {l : List D} {vs : List Value}, Reps F w l vs → ∀ i, Rep F w (l.getD i .top) (vs.getD i undef) := by
  intro l vs h i
  cases hd : l[i]? with
  | none => rw [List.getD_eq_getElem?_getD, hd]; exact rep_top
  | some d =>
    obtain ⟨v, hv, hr⟩ := h.get hd
    rw [List.getD_eq_getElem?_getD, hd, List.getD_eq_getElem?_getD, hv]
    exact hr
theorem aspec_of_ex {f : FuncId} {fn : Func} {c : Code} {A : An} {args : List D} {L : List Bx} {R : AE → List Bx → Prop}
    (hf : P.funcs[f]? = some fn) (hb : fn.body = some c) (hname : fn.name ≠ "runtime.NumGoroutine")
    (hchk : (ltB (args.length + (fn.ntmps - args.length)) (dsts c) && (noDef c || nulB A.j)) = true) (hdr : DrawsOk P (args.length + (fn.ntmps - args.length)) A c)
    (h : aex P A c (aenv0 args) L (apost P fn.results.toList R)) : ASpec P f args L R := by
  intro F w vs aw hr
  refine .inl ⟨⟨fn, hf, by simp [hb], hname⟩, calls_of_wp hf hb ?_⟩
  simp only [Bool.and_eq_true, Bool.or_eq_true] at hchk
  have hlen := hr.length
  have ha : AAgree F w (args.length + (fn.ntmps - args.length)) (aenv0 args) { tmps := vs.toArray ++ Array.replicate (fn.ntmps - vs.toArray.size) undef, defers := [] } := by
    refine ⟨by simp [hlen], fun i => ?_, rfl⟩
    have := reps_getD hr i
    have e : (vs.toArray ++ Array.replicate (fn.ntmps - vs.toArray.size) undef).getD i undef = vs.getD i undef := by
      simp only [Array.getD_eq_getD_getElem?, List.getD_eq_getElem?_getD, Array.getElem?_append]
      split
      · simp
      · rename_i hi
        rw [Array.getElem?_replicate, List.getElem?_eq_none (by simpa using hi)]
        split <;> rfl
    simp only
    rw [e]
    exact this
  have hnd : noDef c = true ∨ A.j = [] := hchk.2.imp id (fun h => by
    unfold nulB at h
    split at h
    · assumption
    · cases h)
  have key : ∀ (ae' : AEnv) (L' : List Bx) (F' : Nat → Prop) (a' : Act) (w' : World), Ev F L w F' L' w' → AW F' L' w' → AAgree F' w' (args.length + (fn.ntmps - args.length)) ae' a' →
      (match ae'.dfr with | [] => aretG P fn.results.toList ae' L' fun l => R (.ret (atup l)) L' | _ => False) →
      a'.defers = [] ∧ ∃ v, (results fn a'.tmps).run P w' = .ok v w' ∧ ∃ a F' L', Ev F L w F' L' w' ∧ AW F' L' w' ∧ ERep F' w' a (.returned v) ∧ R a L' := by
    intro ae' L' F' a' w' he haw ha' hq
    split at hq
    case h_2 => exact hq.elim
    rename_i hd
    obtain ⟨l, vs', hl, hr, hk⟩ := aretG_sound haw fn.results.toList ae' a' _ hq ha'
    have hdd := ha'.dfr
    rw [hd] at hdd
    refine ⟨hdd, _, ?_, .ret (atup l), F', L', he, haw, ⟨_, rfl, atup_ok hr⟩, hk⟩
    have hm : (fn.results.mapM (resF a'.tmps)).run P w' = .ok vs'.toArray w' := by
      generalize fn.results = rs at hl
      obtain ⟨rs⟩ := rs
      simp only [List.mapM_toArray, Sem.run_map, hl]
      rfl
    rw [results_eq]
    simp only [Sem.run_bind]
    rw [hm]
    simp only [Result.andThen_ok, Sem.run_pure]
  refine aex_sound c (aenv0 args) L F w _ _ h aw ha (ltB_spec _ hchk.1) hnd hdr _ ?_ ?_
  · intro ax ae' L' F' a' w' hne hq he haw ha' _ _
    cases ax with
    | normal => exact key ae' L' F' a' w' he haw ha' hq
    | ret => exact key ae' L' F' a' w' he haw ha' hq
    | panic d => cases hne
    | exit i => exact hq.elim
  · intro d ae' L' F' a' w' v hq he haw hr hd _
    simp only [apost] at hq
    split at hq
    case h_2 => exact hq.elim
    rename_i hdd
    rw [hdd] at hd
    exact ⟨hd, .pan d, F', L', he, haw, ⟨v, rfl, hr⟩, hq⟩
end
section
variable {P : Program} {F F' F1 : Nat → Prop} {w w' : World} {L L' L1 L2 M : List Bx}
theorem AW.perm (a : AW F L w) (h : L.Perm L') : AW F L' w :=
  ⟨fun x hx => a.own x (h.mem_iff.2 hx), (h.map Bx.b).nodup_iff.1 a.nodup, fun x hx => a.sep x (h.mem_iff.2 hx), a.lt⟩
theorem AW.left (a : AW F (L ++ M) w) : AW F L w :=
  ⟨fun x hx => a.own x (by simp [hx]), by have := a.nodup; rw [List.map_append, List.nodup_append] at this; exact this.1, fun x hx => a.sep x (by simp [hx]), a.lt⟩
theorem Ev.perm (e : Ev F L w F' L' w') (h : L.Perm L1) (h' : L'.Perm L2) : Ev F L1 w F' L2 w' :=
  ⟨e.os, e.tape, e.output, e.size, fun k hk hn => e.block k hk fun x hx => hn x (h.mem_iff.1 hx), e.grow, fun k hk hf => (e.old k hk hf).imp id fun ⟨x, hx, he⟩ => ⟨x, h.mem_iff.1 hx, he⟩,
    fun x hx hl => by obtain ⟨y, hy, he⟩ := e.own x (h'.mem_iff.2 hx) hl; exact ⟨y, h.mem_iff.1 hy, he⟩, e.drawn⟩
theorem nodup_apart (a : AW F (L ++ M) w) : ∀ x ∈ L, ∀ y ∈ M, x.b ≠ y.b := by
  have := a.nodup
  rw [List.map_append, List.nodup_append] at this
  exact fun x hx y hy => this.2.2 _ (List.mem_map_of_mem hx) _ (List.mem_map_of_mem hy)
theorem AW.frame (a : AW F (L ++ M) w) (e : Ev F L w F' L' w') (a' : AW F' L' w') : AW F' (L' ++ M) w' ∧ Ev F (L ++ M) w F' (L' ++ M) w' := by
  have ap := nodup_apart a
  have hM : ∀ y ∈ M, y.b < w.heap.size := fun y hy => (a.own y (by simp [hy])).lt
  have ks := e.keeps a.left
  have hL : ∀ x ∈ L', ∀ y ∈ M, x.b ≠ y.b := fun x hx y hy he => by
    obtain ⟨z, hz, hze⟩ := e.own x hx (by rw [he]; exact hM y hy)
    exact ap z hz y hy (hze.trans he)
  refine ⟨⟨?_, ?_, ?_, a'.lt⟩, ⟨e.os, e.tape, e.output, e.size, ?_, e.grow, ?_, ?_, e.drawn⟩⟩
  · intro x hx
    rcases List.mem_append.1 hx with hx | hx
    · exact a'.own x hx
    · exact (a.own x (by simp [hx])).keep ks (e.block _ (hM x hx) fun y hy => ap y hy x hx)
  · rw [List.map_append, List.nodup_append]
    refine ⟨a'.nodup, ?_, ?_⟩
    · have := a.nodup
      rw [List.map_append, List.nodup_append] at this
      exact this.2.1
    · intro p hp q hq
      obtain ⟨x, hx, rfl⟩ := List.mem_map.1 hp
      obtain ⟨y, hy, rfl⟩ := List.mem_map.1 hq
      exact hL x hx y hy
  · intro x hx hf
    rcases List.mem_append.1 hx with hx | hx
    · exact a'.sep x hx hf
    · rcases e.old _ (hM x hx) hf with hf | ⟨y, hy, he⟩
      · exact a.sep x (by simp [hx]) hf
      · exact ap y hy x hx he
  · intro k hk hn
    exact e.block k hk fun x hx => hn x (by simp [hx])
  · intro k hk hf
    exact (e.old k hk hf).imp id fun ⟨x, hx, he⟩ => ⟨x, by simp [hx], he⟩
  · intro x hx hl
    rcases List.mem_append.1 hx with hx | hx
    · obtain ⟨y, hy, he⟩ := e.own x hx hl; exact ⟨y, by simp [hy], he⟩
    · exact ⟨x, by simp [hx], rfl⟩
end
end Go.V
