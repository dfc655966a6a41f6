/- What is said of one operation over data and own blocks is so in memory. -/
import Derived.Test.YtlonmopppgadgaaDoorA2
set_option linter.unusedVariables false
namespace Go.V
open Go

section
variable {F : Nat → Prop} {w w' : World} {L : List Bx} {P : Program}
theorem AW.nx (a : AW F L w) (x : Ext (fun _ => False) w w') : AW F L w' ∧ Ev F L w F L w' := by
  have old : ∀ k, k < w.heap.size → w'.heap[k]? = w.heap[k]? := fun k hk => x.block k hk fun h => h
  have ks : Keeps F w F w' := ⟨x.size, fun _ _ h => h, fun k hk _ => old k hk⟩
  refine ⟨⟨fun y hy => (a.own y hy).keep ks (old _ (a.own y hy).lt), a.nodup, a.sep, fun b hb => Nat.lt_of_lt_of_le (a.lt b hb) x.size⟩,
    ⟨x.os, x.tape, x.output, x.size, fun k hk _ => old k hk, fun _ h => h, fun _ _ h => .inl h, fun y hy _ => ⟨y, hy, rfl⟩, x.drawn⟩⟩
theorem AW.add (a : AW F L w) (x : Ext (fun _ => False) w w') {y : Bx} (hy : w.heap.size ≤ y.b) (oy : BxOk F w' y) : AW F (y :: L) w' ∧ Ev F L w F (y :: L) w' := by
  obtain ⟨a', e'⟩ := a.nx x
  refine ⟨⟨?_, ?_, ?_, a'.lt⟩, ⟨e'.os, e'.tape, e'.output, e'.size, e'.block, e'.grow, e'.old, ?_, e'.drawn⟩⟩
  · intro z hz
    rcases List.mem_cons.1 hz with rfl | hz
    · exact oy
    · exact a'.own z hz
  · simp only [List.map_cons, List.nodup_cons]
    refine ⟨fun hh => ?_, a.nodup⟩
    obtain ⟨z, hz, he⟩ := List.mem_map.1 hh
    have := (a.own z hz).lt
    omega
  · intro z hz hf
    rcases List.mem_cons.1 hz with rfl | hz
    · have := a.lt _ hf; omega
    · exact a.sep z hz hf
  · intro z hz hl
    rcases List.mem_cons.1 hz with rfl | hz
    · omega
    · exact ⟨z, hz, rfl⟩
theorem Rep.nx {d : D} {v : Value} (h : Rep F w d v) (x : Ext (fun _ => False) w w') : Rep F w' d v :=
  Rep.keep ⟨x.size, fun _ _ h => h, fun k hk _ => x.block k hk fun h => h⟩ d v h
theorem Reps.nx {d : List D} {v : List Value} (h : Reps F w d v) (x : Ext (fun _ => False) w w') : Reps F w' d v :=
  Reps.keep ⟨x.size, fun _ _ h => h, fun k hk _ => x.block k hk fun h => h⟩ d v h

variable {k : D → List Bx → Prop} {kc : Value → World → Prop}
/-- what a continuation owes -/
def Cont (F : Nat → Prop) (L : List Bx) (w : World) (k : D → List Bx → Prop) (kc : Value → World → Prop) : Prop :=
  ∀ d L' v w' F', k d L' → Ev F L w F' L' w' → AW F' L' w' → Rep F' w' d v → kc v w'
theorem Cont.pure (hk : Cont F L w k kc) (a : AW F L w) : ∀ d r, k d L → Rep F w d r → kc r w := fun d r h hr => hk d L r w F h (Ev.refl ..) a hr

theorem abx_ok {t : TypeId} {l : List D} {vs : List Value} (h : abx l L k) (a : AW F L w) (hr : Reps F w l vs) (hk : Cont F L w k kc) : bx t vs w kc := by
  have := a.push (t := t) (kd := .box) hr [] trivial
  rw [List.append_nil] at this
  exact hk _ _ _ _ _ (h w.heap.size) this.2 this.1 (rep_val trivial)
theorem abxv_ok {t : TypeId} {d : D} {v : Value} (h : abxv d L k) (a : AW F L w) (hr : Rep F w d v) (hk : Cont F L w k kc) : bxv t v w kc := by
  unfold abxv at h
  split at h
  · rw [Rep] at hr
    obtain ⟨vs, rfl, hr⟩ := hr
    unfold bxv
    simpa using abx_ok h a hr hk
  · rw [Bool.cond_eq_ite] at h
    split at h
    · rename_i hd
      have h1 := rep_one hd hr
      have := abx_ok (t := t) h a (reps_cons hr reps_nil) hk
      unfold bxv
      split
      · cases h1
      · cases h1
      · exact this
    · exact h.elim
theorem setRow_keeps (w : World) (b : Nat) (c : Array Value) : (w.setRow b c).heap.size = w.heap.size ∧ (∀ k, k ≠ b → (w.setRow b c).heap[k]? = w.heap[k]?) :=
  ⟨by simp [World.setRow], fun k hn => by simp [World.setRow, Array.getElem?_modify, Ne.symm hn]⟩
theorem ast_ok {n : Nat} {p d : D} {pv v : Value} {kl : List Bx → Prop} {kw : World → Prop} (h : ast n p d L kl) (hn0 : 1 ≤ n) (a : AW F L w) (hp : Rep F w p pv) (hr : Rep F w d v)
    (hk : ∀ L' w', kl L' → Ev F L w F L' w' → AW F L' w' → kw w') : st n pv v w kw := by
  unfold ast at h
  split at h
  · rename_i b o
    obtain ⟨rfl, _⟩ := rep_val_iff.1 hp
    obtain ⟨i, l, kd, m, hi, hn, ho, hle, hm, hk'⟩ := h
    obtain ⟨r1, r2⟩ := rep_cl ho hr
    have hb := a.at hi
    obtain ⟨c, t, vs, h1, h2, h3, h4⟩ := hb.full (by show 0 < l.length; omega)
    simp only at h1 h2 h3 h4
    have hvl : vs.length = l.length := h2.length
    have hcs : v.cells.toList.length = n := by rw [r1.length]; exact hn
    have hlc : l.length ≤ c.size := by
      have := congrArg List.length h3
      simp at this
      omega
    refine ⟨by rw [← Array.length_toList]; exact hcs, r2, c, t, h1, by omega, ?_⟩
    obtain ⟨k1, k2⟩ := setRow_keeps w b (c.toList.take o ++ v.cells.toList ++ c.toList.drop (o + n)).toArray
    have hset := setRow_heap w b c (c.toList.take o ++ v.cells.toList ++ c.toList.drop (o + n)).toArray t (0, 0) h1
    have ks : Keeps F w F (w.setRow b (c.toList.take o ++ v.cells.toList ++ c.toList.drop (o + n)).toArray) :=
      ⟨by rw [k1]; exact Nat.le_refl _, fun _ _ h => h, fun k hk hf => k2 k fun e => a.sep _ (List.mem_of_getElem? hi) (e ▸ hf)⟩
    have hml : m.length = l.length := by rw [← hm]; simp; omega
    have oy : BxOk F (w.setRow b (c.toList.take o ++ v.cells.toList ++ c.toList.drop (o + n)).toArray) ⟨b, m, kd⟩ := by
      refine ⟨.inr ⟨_, t, vs.take o ++ v.cells.toList ++ vs.drop (o + n), hset, ?_, ?_, ?_⟩⟩
      · subst hm
        exact Reps.keep ks _ _ (((h2.take o).append r1).append (h2.drop _))
      · simp only [hml]
        rw [h3, List.take_append, List.take_append, List.take_take, List.take_take, List.drop_take]
        simp only [List.length_append, List.length_take, Array.length_toList, hcs]
        have e1 : min o l.length = o := by omega
        have e2 : min l.length o = o := by omega
        have e3 : min o c.size = o := by omega
        have e4 : v.cells.toList.take (l.length - o) = v.cells.toList := List.take_of_length_le (by omega)
        rw [e1, e2, e3, e4, Nat.sub_add_eq]
      · cases kd with
        | box => trivial
        | map es => exact h4.elim
        | row e sz cap =>
          obtain ⟨q1, q2, q3, q4⟩ := h4
          refine ⟨q1, ?_, q3, by rw [hml]; exact q4⟩
          rw [← q2]
          simp only [List.size_toArray, List.length_append, List.length_take, List.length_drop, hcs, Array.length_toList]
          omega
    obtain ⟨a', e'⟩ := a.swap (y := ⟨b, m, kd⟩) (w' := w.setRow b (c.toList.take o ++ v.cells.toList ++ c.toList.drop (o + n)).toArray) hi (by rw [k1]; exact Nat.le_refl _) ⟨rfl, rfl, rfl, Nat.le_refl _⟩ (fun k _ hk => k2 k hk) (.inl rfl) oy
    exact hk _ _ hk' e' a'
  · exact h.elim
theorem ast0_ok {p d : D} {pv v : Value} {kl : List Bx → Prop} {kw : World → Prop} (h : ast0 p d L kl) (a : AW F L w) (hp : Rep F w p pv) (hr : Rep F w d v)
    (hk : ∀ L' w', kl L' → Ev F L w F L' w' → AW F L' w' → kw w') : st 0 pv v w kw := by
  unfold ast0 at h
  split at h
  case h_2 => exact h.elim
  rename_i b o
  obtain ⟨rfl, _⟩ := rep_val_iff.1 hp
  rw [Rep] at hr
  obtain ⟨vs, rfl, hr⟩ := hr
  rw [Reps] at hr
  subst hr
  obtain ⟨i, l, hi, ho, hk'⟩ := h
  obtain ⟨c, t, vs, h1, h2, h3, h4⟩ := (a.at hi).row (fun _ hh => by cases hh)
  simp only at h1 h2 h3 h4
  have hlc : l.length ≤ c.size := by
    have e1 := h2.length
    have e2 := congrArg List.length h3
    simp at e2
    omega
  refine ⟨rfl, fun u hu => (by cases hu), c, t, h1, by omega, ?_⟩
  have hc : (c.toList.take o ++ ((.agg #[] : Value).cells.toList) ++ c.toList.drop (o + 0)) = c.toList := by
    show c.toList.take o ++ [] ++ c.toList.drop o = c.toList
    rw [List.append_nil, List.take_append_drop]
  show kw (w.setRow b (c.toList.take o ++ ((.agg #[] : Value).cells.toList) ++ c.toList.drop (o + 0)).toArray)
  rw [hc]
  obtain ⟨k1, k2⟩ := setRow_keeps w b c.toList.toArray
  have hset := setRow_heap w b c c.toList.toArray t (0, 0) h1
  have ks : Keeps F w F (w.setRow b c.toList.toArray) :=
    ⟨by rw [k1]; exact Nat.le_refl _, fun _ _ h => h, fun k hk hf => k2 k fun e => a.sep _ (List.mem_of_getElem? hi) (e ▸ hf)⟩
  have oy : BxOk F (w.setRow b c.toList.toArray) ⟨b, l, .box⟩ := ⟨.inr ⟨_, t, vs, hset, Reps.keep ks _ _ h2, by simpa using h3, trivial⟩⟩
  obtain ⟨a', e'⟩ := a.swap (y := ⟨b, l, .box⟩) (w' := w.setRow b c.toList.toArray) hi (by rw [k1]; exact Nat.le_refl _) ⟨rfl, rfl, rfl, Nat.le_refl _⟩ (fun k _ hk => k2 k hk) (.inl rfl) oy
  have hL : L.set i ⟨b, l, .box⟩ = L := by
    apply List.ext_getElem?
    intro j
    rw [List.getElem?_set]
    split
    · rename_i hj
      subst hj
      rw [hi, if_pos (List.getElem?_eq_some_iff.1 hi).1]
    · rfl
  rw [hL] at a' e'
  exact hk _ _ hk' e' a'
theorem fillL_length : ∀ (qs : List (Nat × List Value)) (z : List Value), (∀ q ∈ qs, q.1 + q.2.length ≤ z.length) → (fillL z qs).length = z.length
  | [], z, _ => rfl
  | (o, l) :: r, z, h => by
    have h1 := h (o, l) (by simp)
    simp only at h1
    have e : (z.take o ++ l ++ z.drop (o + l.length)).length = z.length := by simp; omega
    rw [fillL, fillL_length r _ (fun q hq => by rw [e]; exact h q (by simp [hq])), e]
theorem afill_length : ∀ (qs : List (Nat × List D)) (z : List D), (∀ q ∈ qs, q.1 + q.2.length ≤ z.length) → (afill z qs).length = z.length
  | [], z, _ => rfl
  | (o, l) :: r, z, h => by
    have h1 := h (o, l) (by simp)
    simp only at h1
    have e : (z.take o ++ l ++ z.drop (o + l.length)).length = z.length := by simp; omega
    rw [afill, afill_length r _ (fun q hq => by rw [e]; exact h q (by simp [hq])), e]
theorem parts_fit {t : TypeId} {n : Nat} {ρ : Operand → Value} : ∀ (ps : List (Nat × Operand)), fitsT P t n ps = true → sizes (partsT P t ρ ps) → ∀ q ∈ parts (partsT P t ρ ps), q.1 + q.2.length ≤ n
  | [], _, _, q, hq => by cases hq
  | (i, x) :: ps, h, hs, q, hq => by
    have h1 := fitsT_spec _ h
    simp only [partsT, sizes] at hs
    simp only [partsT, parts, List.map_cons, List.mem_cons] at hq
    rcases hq with rfl | hq
    · have := (h1 (i, x) (by simp)).1
      simp only [Array.length_toList, hs.1]
      exact this
    · refine parts_fit ps ?_ hs.2 q hq
      simp only [fitsT, Bool.cond_eq_ite] at h
      split at h
      · exact h
      · cases h
theorem abldF_ok {sz n : Nat} {z : List Value} {t e : TypeId} {ps : List (Nat × Operand)} {ρ : Operand → D} {ρc : Operand → Value} {kd : D → Prop} (h : abldF sz n (vals z) (apartsT P t ρ ps) kd) (a : AW F L w)
    (hr : ∀ p ∈ ps, Rep F w (ρ p.2) (ρc p.2)) (hz : ∀ v ∈ z, Okv v) (hzl : z.length = n * sz) (hf : fitsT P t (n * sz) ps = true) (hb : n ≤ 9223372036854775807)
    (hk : Cont F L w (fun d L' => L' = L ∧ kd d) kc) : bldS e n z (partsT P t ρc ps) w kc := by
  obtain ⟨hs, l, hl, hk'⟩ := h
  have hp := pts_of (P := P) (t := t) hr
  obtain ⟨h1, h2, h3⟩ := hp.ok hs
  have hR := afill_ok (reps_vals hz) h2 h3
  refine ⟨h1, ?_⟩
  obtain ⟨a', e'⟩ := a.lay (.cells (fillL z (parts (partsT P t ρc ps))).toArray e)
  refine hk _ _ _ _ _ ⟨rfl, hk'⟩ e' a' ?_
  have hR' := Reps.keep (e'.keeps a) _ _ hR
  have hlen := fillL_length _ z (fun q hq => by rw [hzl]; exact parts_fit ps hf h1 q hq)
  have hnew : (w.alloc (.cells (fillL z (parts (partsT P t ρc ps))).toArray e)).heap[w.heap.size]? = some (.cells (fillL z (parts (partsT P t ρc ps))).toArray e (0, 0)) := by
    show (w.heap.push _)[w.heap.size]? = _
    rw [Array.getElem?_push, if_pos rfl]
  have hc := cells_of hnew 0 (fillL z (parts (partsT P t ρc ps))).length
  simp only [List.drop_zero, List.take_length] at hc
  rw [Rep]
  refine ⟨_, n, by rw [← hl, chunk_length], ⟨by rw [← hl, chunk_length]; exact Nat.le_refl _, hb⟩, .inr ⟨w.heap.size, 0, rfl, .inr rfl, by simp, ?_⟩⟩
  rw [← hl]
  exact rws_chunk n hR' hc (by rw [hlen, hzl]; exact Nat.le_refl _)
theorem abldS_ok {sz n : Nat} {z : List Value} {t e : TypeId} {ps : List (Nat × Operand)} {ρ : Operand → D} {ρc : Operand → Value} (h : abldS e sz n (vals z) (apartsT P t ρ ps) L k) (a : AW F L w)
    (hr : ∀ p ∈ ps, Rep F w (ρ p.2) (ρc p.2)) (hz : ∀ v ∈ z, Okv v) (hzl : z.length = n * sz) (hf : fitsT P t (n * sz) ps = true) (hb : n ≤ 9223372036854775807)
    (hk : Cont F L w k kc) : bldS e n z (partsT P t ρc ps) w kc := by
  rcases h with h | ⟨hs, l, hl, hk'⟩
  · exact abldF_ok h a hr hz hzl hf hb fun d L' v w' F' h1 h2 h3 h4 => hk d L' v w' F' (by rw [h1.1]; exact h1.2) h2 h3 h4
  · have hp := pts_of (P := P) (t := t) hr
    obtain ⟨h1, h2, h3⟩ := hp.ok hs
    have hR := afill_ok (reps_vals hz) h2 h3
    refine ⟨h1, ?_⟩
    have hlen := fillL_length _ z (fun q hq => by rw [hzl]; exact parts_fit ps hf h1 q hq)
    have hll : l.length = n * sz := by rw [← hl, ← hR.length, hlen, hzl]
    rw [hl] at hR
    obtain ⟨a', e'⟩ := a.push (t := e) (kd := .row e sz n) hR [] ⟨rfl, by simp [hlen, hzl], hb, n, hll⟩
    rw [List.append_nil] at a' e'
    exact hk _ _ _ _ _ (hk' w.heap.size) e' a' (rep_val ⟨Nat.le_refl _, hb⟩)
theorem asrc_ok {sz m : Nat} {x : D} {v : Value} {ys : List D} (h : asrc sz x L m ys) (a : AW F L w) (hx : Rep F w x v) :
    ∃ us, Reps F w ys us ∧ us.length = m * sz ∧ SrcV w v m us := by
  unfold asrc at h
  split at h
  · obtain ⟨rfl, rfl, rfl⟩ := h
    rw [Rep] at hx
    obtain ⟨p, c, rfl, hc, rfl | ⟨b, o, rfl, hf, hb, hr⟩⟩ := hx
    · refine ⟨[], reps_nil, by simp, rfl, ?_⟩
      cases p with
      | none => exact ⟨rfl, rfl⟩
      | some p => intro i hi; simp at hi
    · obtain ⟨vs, h1, h2, h3⟩ := hr.flat
      exact ⟨vs, h1, h2, rfl, h3⟩
  · obtain ⟨rfl, rfl, rfl⟩ := h
    obtain ⟨rfl, _⟩ := rep_val_iff.1 hx
    exact ⟨[], reps_nil, by simp, rfl, rfl, rfl⟩
  · rename_i b o n c
    obtain ⟨rfl, i, l, kd, hi, hy, hl⟩ := h
    obtain ⟨rfl, _⟩ := rep_val_iff.1 hx
    by_cases h0 : n * sz = 0
    · have : ys = [] := List.eq_nil_of_length_eq_zero (by rw [hl, h0])
      subst this
      exact ⟨[], reps_nil, by simp [h0], rfl, fun i hi => by simp at hi⟩
    · have hle : o + n * sz ≤ l.length := by
        have := congrArg List.length hy
        simp only [List.length_take, List.length_drop, hl] at this
        omega
      obtain ⟨vs, h1, h2, h3⟩ := (a.at hi).cells o (n * sz) hle
      simp only at h1 h3
      rw [hy] at h1
      exact ⟨vs, h1, h2, rfl, h3⟩
  · exact h.elim
theorem aapp_ok {e : TypeId} {sz bytes : Nat} {s x : D} {vs v : Value} (h : aapp e sz bytes s x L k) (a : AW F L w) (hs : Rep F w s vs) (hx : Rep F w x v) (hk : Cont F L w k kc) : app e sz bytes vs v w kc := by
  obtain ⟨m, ys, h1, h2, h3⟩ := h
  obtain ⟨us, hu, hl, hm⟩ := asrc_ok h1 a hx
  have ho := reps_one h2 hu
  split at h3
  · obtain ⟨rfl, _⟩ := rep_val_iff.1 hs
    refine ⟨0, [], m, us, World.ownsRow_nil .., hm, hl, ho, by simpa using h3.1, ?_⟩
    intro v' w' hv' hx' hb'
    have hx'' : Ext (fun _ => False) w w' := ⟨hx'.os, hx'.tape, hx'.output, hx'.size, fun k hk _ => hx'.block k hk fun hh => by simp [Value.ownBlock] at hh, hx'.drawn⟩
    obtain ⟨h4, h5⟩ := h3
    rw [Bool.cond_eq_ite] at h5
    split at h5
    · rename_i h0
      rw [Nat.beq_eq] at h0
      subst h0
      obtain ⟨a', e'⟩ := a.nx hx''
      refine hk _ _ _ _ _ h5 e' a' ?_
      rw [Rep]
      rcases hv'.2 with ⟨rfl, _⟩ | ⟨g, cap, cur, rfl, _, _, _, hcap, _⟩
      · exact ⟨none, 0, rfl, ⟨Nat.le_refl _, by decide⟩, .inl rfl⟩
      · exact ⟨_, cap, rfl, ⟨Nat.zero_le _, hcap⟩, .inl rfl⟩
    · rename_i h0
      rw [Nat.beq_eq] at h0
      rcases hv'.2 with ⟨rfl, hh⟩ | ⟨g, cap, cur, rfl, _, hg, hnc, hcap, hsz, htk⟩
      · omega
      rw [Nat.zero_add] at hnc htk ⊢
      have hgn : w.heap.size ≤ g := by
        rcases hb' with hh | ⟨b, hh, hb⟩
        · simp [Value.ownBlock] at hh
        · simp only [Value.ownBlock, Option.some.injEq] at hh; omega
      have hyl : ys.length = m * sz := by rw [← hu.length, hl]
      obtain ⟨a', e'⟩ := a.add (y := ⟨g, ys, .row e sz cap⟩) hx'' hgn ⟨.inr ⟨cur, e, us, hg, hu.nx hx'', by rw [hyl, htk]; simp, rfl, hsz, hcap, m, hyl⟩⟩
      exact hk _ _ _ _ _ (h5 g cap) e' a' (rep_val ⟨hnc, hcap⟩)
  · rename_i b n c
    obtain ⟨rfl, hok⟩ := rep_val_iff.1 hs
    obtain ⟨hby, i, l, hi, hll, hk'⟩ := h3
    obtain ⟨cc, t, vs, b1, b2, b3, rfl, b5, b6, _⟩ := (a.at hi).row (fun _ hh => by cases hh)
    simp only at b1 b2 b3
    refine ⟨n, cc.toList.take (n * sz), m, us, ⟨?_, .inr ⟨b, c, cc, rfl, Nat.zero_le _, b1, hok.1, b6, b5, rfl⟩⟩, hm, hl, ho, hby, ?_⟩
    · have := b2.length
      rw [b3, hll] at this
      exact this
    intro v' w' hv' hx' hb'
    rcases hv'.2 with ⟨rfl, hh⟩ | ⟨g, cap, cur, rfl, _, hg, hnc, hcap, hsz, htk⟩
    · rcases hb' with hh | ⟨b', hh, _⟩ <;> simp [Value.ownBlock] at hh
    have hgn : g = b ∨ w.heap.size ≤ g := by
      rcases hb' with hh | ⟨b', hh, hb⟩
      · left; simpa [Value.ownBlock] using hh
      · right; simp only [Value.ownBlock, Option.some.injEq] at hh; omega
    have hyl : ys.length = m * sz := by rw [← hu.length, hl]
    have ks : Keeps F w F w' := ⟨hx'.size, fun _ _ h => h, fun k hk hf => hx'.block k hk fun hh => by
      simp only [Value.ownBlock, Option.some.injEq] at hh
      exact a.sep _ (List.mem_of_getElem? hi) (hh ▸ hf)⟩
    obtain ⟨a', e'⟩ := a.swap (y := ⟨g, l ++ ys, .row _ sz cap⟩) hi hx'.size ⟨hx'.os, hx'.tape, hx'.output, hx'.drawn⟩ (fun k hk hne => hx'.block k hk fun hh => hne (by simpa [Value.ownBlock] using hh.symm)) hgn
      ⟨.inr ⟨cur, _, vs ++ us, hg, Reps.keep ks _ _ (b2.append hu), by
        rw [List.length_append, hll, hyl, ← Nat.add_mul, htk, b3, hll], rfl, hsz, hcap, n + m, by rw [List.length_append, hll, hyl, Nat.add_mul]⟩⟩
    exact hk _ _ _ _ _ (hk' g cap) e' a' (rep_val ⟨hnc, hcap⟩)
  · exact h3.elim
theorem reps_add (z : List Value) : ∀ n m, reps (n + m) z = reps n z ++ reps m z
  | 0, m => by simp [reps]
  | n + 1, m => by rw [Nat.succ_add, reps, reps_add z n m, reps, List.append_assoc]
theorem reps_vals_eq (z : List Value) : ∀ n, (List.replicate n (vals z)).flatten = vals (reps n z)
  | 0 => rfl
  | n + 1 => by rw [List.replicate_succ, List.flatten_cons, reps_vals_eq z n, vals_eq, vals_eq, vals_eq, reps, List.map_append]
theorem reps_mem {z : List Value} {v : Value} : ∀ {n}, v ∈ reps n z → v ∈ z
  | n + 1, h => by
    rw [reps, List.mem_append] at h
    rcases h with h | h
    · exact h
    · exact reps_mem h
theorem amkS_ok {e : TypeId} {sz bytes : Nat} {z : List Value} {l c : D} {vl vc : Value} (h : amkS e sz bytes (vals z) l c L k) (a : AW F L w) (hl : Rep F w l vl) (hc : Rep F w c vc) (hz : ∀ v ∈ z, Okv v) (hsz : z.length = sz)
    (hk : Cont F L w k kc) : mkS e bytes z vl vc w kc := by
  obtain ⟨ki, kj, n, m, rfl, rfl, h1, h2, h3, h4⟩ := h
  obtain ⟨rfl, _⟩ := rep_val_iff.1 hl
  obtain ⟨rfl, _⟩ := rep_val_iff.1 hc
  refine ⟨m, ki, kj, n, rfl, rfl, h1, h2, h3, ?_⟩
  rw [madeCells_reps]
  have e1 : reps m z = reps n z ++ reps (m - n) z := by rw [← reps_add]; congr 1; omega
  rw [e1]
  have hlen : (vals (reps n z)).length = n * sz := by rw [vals_eq, List.length_map, reps_length, hsz]
  obtain ⟨a', e'⟩ := a.push (t := e) (kd := .row e sz m) (reps_vals (F := F) (w := w) (z := reps n z) fun v hv => hz v (reps_mem hv)) (reps (m - n) z) ⟨rfl, by rw [← e1, List.size_toArray, reps_length, hsz], by omega, n, hlen⟩
  have := h4 w.heap.size
  rw [reps_vals_eq] at this
  exact hk _ _ _ _ _ this e' a' (rep_val ⟨h1, by omega⟩)

/-! ### calls -/
def ContP (F : Nat → Prop) (L : List Bx) (w : World) (kp : D → List Bx → Prop) (kpc : List PanicEntry → World → Prop) : Prop :=
  ∀ d L' v w' F', kp d L' → Ev F L w F' L' w' → AW F' L' w' → Rep F' w' d v → kpc [{ v := v, recovered := false }] w'
theorem Spec.mono {g : FuncId} {args : Array Value} {R T : Ending → World → Prop} (h : Spec P g args w R) (hRT : ∀ e w', R e w' → T e w') : Spec P g args w T :=
  h.imp (fun h => ⟨h.1, h.2.mono hRT⟩) fun ⟨v, w', h1, h2⟩ => ⟨v, w', h1, hRT _ _ h2⟩
variable {kp : D → List Bx → Prop} {kpc : List PanicEntry → World → Prop}
theorem acallW_ok {g : FuncId} {args : List D} {vs : List Value} (h : acallW P g args L kp k) (a : AW F L w) (hr : Reps F w args vs) (hk : Cont F L w k kc) (hp : ContP F L w kp kpc) : callW P g vs.toArray w kpc kc := by
  refine (h F w vs a hr).mono fun e w' hh => ?_
  obtain ⟨ae, F', L', h1, h2, h3, h4⟩ := hh
  cases ae with
  | ret d => obtain ⟨v, rfl, hv⟩ := h3; exact hk _ _ _ _ _ h4 h1 h2 hv
  | pan d => obtain ⟨v, rfl, hv⟩ := h3; exact hp _ _ _ _ _ h4 h1 h2 hv
theorem acallS_W {g : FuncId} {args : List D} (h : acallS P g args L kp k) : acallW P g args L kp k := by
  obtain ⟨ae, h1, h2⟩ := h
  intro F w vs a hr
  refine (h1 F w vs a hr).mono fun e w' hh => ?_
  obtain ⟨ae', F', L', q1, q2, q3, rfl, rfl⟩ := hh
  refine ⟨ae', F', L', q1, q2, q3, ?_⟩
  cases ae' with
  | ret d => exact h2
  | pan d => exact h2
theorem acallF_ok {s : Bool} {f : D} {args : List D} {vf : Value} {vs : List Value} (h : acallF P s f args L kp k) (a : AW F L w) (hf : Rep F w f vf) (hr : Reps F w args vs) (hk : Cont F L w k kc) (hp : ContP F L w kp kpc) : callF P vf vs.toArray w kpc kc := by
  unfold acallF at h
  split at h
  · rename_i g first cap
    rw [Rep] at hf
    obtain ⟨as, cs, rfl, h1, h2⟩ := hf
    have h' : acallW P g (first ++ args ++ cap) L kp k := by
      cases s with
      | true => exact acallS_W h
      | false => exact h
    simpa [callF] using acallW_ok h' a ((h1.append hr).append h2) hk hp
  · exact h.elim

/-! ### one operation -/
theorem zT_mono {t : TypeId} {G H : List Value → Prop} (h : zT P t G) (hh : ∀ z, G z → H z) : zT P t H := by
  unfold zT at h ⊢
  cases hi : P.info? t with
  | none => simp only [hi] at h
  | some i =>
    simp only [hi] at h ⊢
    cases hz : i.zero with
    | none => simp only [hz] at h
    | some z => simp only [hz] at h ⊢; exact hh _ h
theorem orep_map {ρ : Operand → D} {ρc : Operand → Value} {x : Option Operand} (h : ∀ y, x = some y → Rep F w (ρ y) (ρc y)) : ORep F w (x.map ρ) (x.map ρc) := by
  cases x with
  | none => trivial
  | some y => exact h y rfl
theorem vals_reps_ok {z : List Value} (hz : ∀ v ∈ z, Okv v) (n : Nat) : Reps F w (vals (reps n z)) (reps n z) := reps_vals fun v hv => hz v (reps_mem hv)
theorem aclr_ok {z : List Value} {sz : Nat} {x : D} {v : Value} {kl : List Bx → Prop} {kw : World → Prop} (h : aclr z sz x L kl) (hsz : 1 ≤ sz) (a : AW F L w) (hz : ∀ v ∈ z, Okv v) (hx : Rep F w x v)
    (hk : ∀ L' w', kl L' → Ev F L w F L' w' → AW F L' w' → kw w') : clr z sz v w kw := by
  unfold aclr at h
  split at h
  · obtain ⟨rfl, _⟩ := rep_val_iff.1 hx
    exact hk _ _ h (Ev.refl ..) a
  · rename_i b o n c
    obtain ⟨rfl, _⟩ := rep_val_iff.1 hx
    show (bif Nat.beq n 0 then kw w else st _ _ _ _ _)
    rw [Bool.cond_eq_ite] at h ⊢
    split at h
    · rename_i hn; rw [if_pos hn]; exact hk _ _ h (Ev.refl ..) a
    · rename_i hn
      rw [if_neg hn]
      rw [Nat.beq_eq] at hn
      have hn1 : 1 * 1 ≤ n * sz := Nat.mul_le_mul (by omega) hsz
      exact ast_ok h (by omega) a (rep_val trivial) (by rw [Rep]; exact ⟨reps n z, rfl, vals_reps_ok hz n⟩) hk
  · exact h.elim
theorem zV_mono {t : TypeId} {G H : Value → Prop} (h : zV P t G) (hh : ∀ z, G z → H z) : zV P t H := by
  obtain ⟨i, z, h1, h2, h3⟩ := zV_spec h
  unfold zV
  simp only [h1, h2]
  exact hh _ h3
theorem setObj_keeps (w : World) (b : Nat) (o : Obj) : ({ w with heap := w.heap.setIfInBounds b o } : World).heap.size = w.heap.size ∧ (∀ k, k ≠ b → ({ w with heap := w.heap.setIfInBounds b o } : World).heap[k]? = w.heap[k]?) :=
  ⟨by simp, fun k hn => by
    show (w.heap.setIfInBounds b o)[k]? = _
    rw [Array.getElem?_setIfInBounds_ne (Ne.symm hn)]⟩
theorem amkM_ok (h : amkM L k) (a : AW F L w) (hk : Cont F L w k kc) : mkM w kc := by
  have old : ∀ i, i < w.heap.size → (w.alloc (.map #[] 0)).heap[i]? = w.heap[i]? := fun i hi => by
    show (w.heap.push _)[i]? = _
    rw [Array.getElem?_push, if_neg (Nat.ne_of_lt hi)]
  have x : Ext (fun _ => False) w (w.alloc (.map #[] 0)) := ⟨rfl, rfl, rfl, by simp, fun i hi _ => old i hi, Nat.le_refl _⟩
  have oy : BxOk F (w.alloc (.map #[] 0)) ⟨w.heap.size, [], .map []⟩ := ⟨.inl ⟨[], #[], 0, rfl, rfl, by
    show (w.heap.push _)[w.heap.size]? = _
    rw [Array.getElem?_push, if_pos rfl], rfl, List.nodup_nil⟩⟩
  obtain ⟨a', e'⟩ := a.add x (y := ⟨w.heap.size, [], .map []⟩) (Nat.le_refl _) oy
  exact hk _ _ _ _ _ (h w.heap.size) e' a' (rep_val trivial)
theorem MReps.mem : ∀ {es : List (Value × D)} {l : List MapEntry}, MReps F w es l → (∀ e ∈ l, ∃ d, (e.key, d) ∈ es ∧ Rep F w d e.val) ∧ ∀ p ∈ es, ∃ e ∈ l, e.key = p.1 ∧ Rep F w p.2 e.val
  | [], l, h => by
    have h : l = [] := h
    subst h
    exact ⟨fun _ h => (by cases h), fun _ h => (by cases h)⟩
  | (k, d) :: es, l, ⟨e, s, h1, h2, h3, h4⟩ => by
    subst h1
    obtain ⟨m1, m2⟩ := MReps.mem h4
    refine ⟨fun x hx => ?_, fun p hp => ?_⟩
    · rcases List.mem_cons.1 hx with rfl | hx
      · exact ⟨d, by rw [h2]; exact List.mem_cons_self, h3⟩
      · obtain ⟨q, hq, hr⟩ := m1 x hx
        exact ⟨q, List.mem_cons_of_mem _ hq, hr⟩
    · rcases List.mem_cons.1 hp with rfl | hp
      · exact ⟨e, List.mem_cons_self, h2, h3⟩
      · obtain ⟨q, hq, hr⟩ := m2 p hp
        exact ⟨q, List.mem_cons_of_mem _ hq, hr⟩
theorem MReps.len : ∀ {es : List (Value × D)} {l : List MapEntry}, MReps F w es l → es.length = l.length
  | [], l, h => by
    have h : l = [] := h
    subst h; rfl
  | _ :: es, l, ⟨e, s, h1, h2, h3, h4⟩ => by
    subst h1
    simp [MReps.len h4]
theorem MReps.at : ∀ {es : List (Value × D)} {l : List MapEntry}, MReps F w es l → ∀ {j : Nat} {p : Value × D}, es[j]? = some p → ∃ e, l[j]? = some e ∧ e.key = p.1
  | [], _, _, j, p, hp => by simp at hp
  | (k, d) :: es, l, ⟨e, s, h1, h2, h3, h4⟩, j, p, hp => by
    subst h1
    cases j with
    | zero =>
      simp only [List.getElem?_cons_zero, Option.some.injEq] at hp
      subst hp
      exact ⟨e, rfl, h2⟩
    | succ j => exact MReps.at h4 (by simpa using hp)
theorem MReps.push : ∀ {es : List (Value × D)} {l : List MapEntry} {e : MapEntry} {d : D}, MReps F w es l → Rep F w d e.val → MReps F w (es ++ [(e.key, d)]) (l ++ [e])
  | [], l, e, d, h, hr => by
    have h : l = [] := h
    subst h
    exact ⟨e, [], rfl, rfl, hr, rfl⟩
  | _ :: es, l, e, d, ⟨x, s, h1, h2, h3, h4⟩, hr => by
    subst h1
    exact ⟨x, s ++ [e], rfl, h2, h3, MReps.push h4 hr⟩
theorem MReps.set : ∀ {es : List (Value × D)} {l : List MapEntry} {e : MapEntry} {d : D} (j : Nat), MReps F w es l → Rep F w d e.val → MReps F w (es.set j (e.key, d)) (l.set j e)
  | [], l, e, d, j, h, hr => by
    have h : l = [] := h
    subst h
    exact rfl
  | _ :: es, l, e, d, j, ⟨x, s, h1, h2, h3, h4⟩, hr => by
    subst h1
    cases j with
    | zero => exact ⟨e, s, rfl, rfl, hr, h4⟩
    | succ j => exact ⟨x, s.set j e, rfl, h2, h3, MReps.set j h4 hr⟩
theorem map_of {b j : Nat} {es : List (Value × D)} (a : AW F L w) (hj : L[j]? = some (Bx.mk b [] (.map es))) : ∃ ces clock, w.heap[b]? = some (.map ces clock) ∧ MReps F w es ces.toList ∧ KeysOk es := by
  rcases (a.at hj).has with ⟨es', ces, clock, h0, _, h2, h3, h4⟩ | ⟨_, _, _, _, _, _, h⟩
  · cases h0
    exact ⟨ces, clock, h2, h3, h4⟩
  · exact h.elim
theorem keys_one {es : List (Value × D)} (h : KeysOk es) {k : Value} {d d' : D} (h1 : (k, d) ∈ es) (h2 : (k, d') ∈ es) : d = d' := by
  unfold KeysOk at h
  induction es with
  | nil => cases h1
  | cons p es ih =>
    rw [List.map_cons, List.nodup_cons] at h
    rcases List.mem_cons.1 h1 with e1 | h1
    · rcases List.mem_cons.1 h2 with e2 | h2
      · rw [← e1] at e2; exact (congrArg Prod.snd e2).symm
      · exact absurd (List.mem_map.2 ⟨_, h2, by rw [← e1]⟩) h.1
    · rcases List.mem_cons.1 h2 with e2 | h2
      · exact absurd (List.mem_map.2 ⟨_, h1, by rw [← e2]⟩) h.1
      · exact ih h.2 h1 h2
theorem alkM_ok {kt : TypeId} {ok : Bool} {z : Value} {x i : D} {vx vi : Value} {kd : D → Prop} {kp : Value → Prop} (h : alkM P kt ok (dz z) x i L kd) (hz : zvOk z = true) (a : AW F L w) (hx : Rep F w x vx) (hi : Rep F w i vi)
    (hk : ∀ d r, kd d → Rep F w d r → kp r) : lkM P kt ok z vx vi w kp := by
  unfold alkM at h
  split at h
  case h_2 => exact h.elim
  rename_i b
  obtain ⟨rfl, _⟩ := rep_val_iff.1 hx
  obtain ⟨j, es, K, key, hj, mk, hK, hkey, hkk, h⟩ := h
  obtain rfl := dkv_ok _ hkey hi
  obtain ⟨ces, clock, h2, h3, h4⟩ := map_of a hj
  obtain ⟨m1, m2⟩ := h3.mem
  refine ⟨K, ces, clock, h2, mk, hkk, fun e he => ?_, ?_, ?_⟩
  · obtain ⟨d, hd, _⟩ := m1 e he
    exact hK _ hd
  · intro hno
    rcases h with ⟨d, hd, _⟩ | ⟨_, hk'⟩
    · obtain ⟨e, he, hee, _⟩ := m2 _ hd
      exact absurd hee (hno e he)
    · exact hk _ _ hk' (resOk_ok (dz_ok hz))
  · intro e he hee
    obtain ⟨d', hd', hr'⟩ := m1 e he
    rcases h with ⟨d, hd, hk'⟩ | ⟨hno, _⟩
    · rw [hee] at hd'
      rw [keys_one h4 hd hd'] at hk'
      exact hk _ _ hk' (resOk_ok hr')
    · exact absurd hee (hno _ hd')
theorem aupM_ok {kt : TypeId} {x i v : D} {vx vi vv : Value} {kl : List Bx → Prop} {kw : World → Prop} (h : aupM P kt x i v L kl) (a : AW F L w) (hx : Rep F w x vx) (hi : Rep F w i vi) (hv : Rep F w v vv)
    (hk : ∀ L' w', kl L' → Ev F L w F L' w' → AW F L' w' → kw w') : upM P kt vx vi vv w kw := by
  unfold aupM at h
  split at h
  case h_2 => exact h.elim
  rename_i b
  obtain ⟨rfl, _⟩ := rep_val_iff.1 hx
  obtain ⟨j, es, K, key, hj, mk, hK, hkey, hkk, h⟩ := h
  obtain rfl := dkv_ok _ hkey hi
  obtain ⟨ces, clock, h2, h3, h4⟩ := map_of a hj
  obtain ⟨m1, m2⟩ := h3.mem
  have hlt : b < w.heap.size := (Array.getElem?_eq_some_iff.1 h2).1
  have go : ∀ (o : Obj) (es' : List (Value × D)), BxOk F { w with heap := w.heap.setIfInBounds b o } ⟨b, [], .map es'⟩ → kl (L.set j ⟨b, [], .map es'⟩) → kw { w with heap := w.heap.setIfInBounds b o } := by
    intro o es' oy hkl
    obtain ⟨k1, k2⟩ := setObj_keeps w b o
    obtain ⟨a', e'⟩ := a.swap (y := ⟨b, [], .map es'⟩) (w' := { w with heap := w.heap.setIfInBounds b o }) hj (by rw [k1]; exact Nat.le_refl _) ⟨rfl, rfl, rfl, Nat.le_refl _⟩ (fun k _ hk => k2 k hk) (.inl rfl) oy
    exact hk _ _ hkl e' a'
  have kp : ∀ o : Obj, Keeps F w F { w with heap := w.heap.setIfInBounds b o } := fun o =>
    ⟨by rw [(setObj_keeps w b o).1]; exact Nat.le_refl _, fun _ _ h => h, fun k hk hf => (setObj_keeps w b o).2 k fun e => a.sep _ (List.mem_of_getElem? hj) (e ▸ hf)⟩
  refine ⟨K, ces, clock, h2, mk, hkk, fun e he => ?_, ?_, ?_⟩
  · obtain ⟨d, hd, _⟩ := m1 e he
    exact hK _ hd
  · intro hno
    rcases h with ⟨hne, hk'⟩ | ⟨m, d, hd, _⟩
    · refine go _ _ ⟨.inl ⟨_, ces.push { key := vi, val := vv, born := clock }, clock + 1, rfl, rfl, by simp [hlt], ?_, ?_⟩⟩ hk'
      · rw [Array.toList_push]
        exact (MReps.push (e := { key := vi, val := vv, born := clock }) h3 hv).keep (kp _)
      · unfold KeysOk at h4 ⊢
        rw [List.map_append, List.nodup_append]
        refine ⟨h4, by simp, ?_⟩
        intro q hq r hr
        simp only [List.map_cons, List.map_nil, List.mem_singleton] at hr
        subst hr
        obtain ⟨p, hp, rfl⟩ := List.mem_map.1 hq
        exact hne p hp
    · obtain ⟨e, he, hee, _⟩ := m2 _ (List.mem_of_getElem? hd)
      exact absurd hee (hno e he)
  · intro q e he hee
    obtain ⟨d', hd', hr'⟩ := m1 e (List.mem_of_getElem? he)
    rcases h with ⟨hne, _⟩ | ⟨m, d, hd, hk'⟩
    · exact absurd hee (hne _ hd')
    · have hql : q < es.length := by rw [h3.len]; exact (List.getElem?_eq_some_iff.1 he).1
      obtain ⟨e2, he2, hee2⟩ := h3.at (j := q) (p := es[q]) (by simp [hql])
      have hq2 : es[q].1 = vi := by
        rw [← hee2]
        rw [he] at he2
        cases he2
        exact hee
      have hmq : m = q := by
        have hml : m < es.length := (List.getElem?_eq_some_iff.1 hd).1
        have hm2 : es[m] = (vi, d) := (List.getElem?_eq_some_iff.1 hd).2
        have e1 : (es.map (·.1))[m]'(by simpa using hml) = (es.map (·.1))[q]'(by simpa using hql) := by simp [hm2, hq2]
        exact (List.getElem_inj h4).1 e1
      subst hmq
      refine go _ _ ⟨.inl ⟨_, ces.modify m (fun e => { e with key := vi, val := vv }), clock, rfl, rfl, by simp [hlt], ?_, ?_⟩⟩ hk'
      · have hs : (ces.modify m (fun e => { e with key := vi, val := vv })).toList = ces.toList.set m { e with key := vi, val := vv } := by
          rw [Array.toList_modify]
          apply List.ext_getElem?
          intro r
          rw [List.getElem?_modify, List.getElem?_set]
          by_cases hr : m = r
          · subst hr
            have h9 := (List.getElem?_eq_some_iff.1 he).1
            have h8 := (List.getElem?_eq_some_iff.1 he).2
            have h7 : m < ces.size := by simpa using h9
            have h6 : ces[m].born = e.born := by rw [← h8]; simp
            simp [h7, h6]
          · simp [hr]
        rw [hs]
        exact (MReps.set (e := { e with key := vi, val := vv }) m h3 hv).keep (kp _)
      · unfold KeysOk at h4 ⊢
        have : (es.set m (vi, v)).map (·.1) = es.map (·.1) := by
          rw [List.map_set]
          apply List.ext_getElem?
          intro r
          rw [List.getElem?_set]
          split
          · rename_i hr
            subst hr
            simp [hql, hq2]
          · rfl
        rw [this]; exact h4
theorem aopK_sound {s : Bool} {ty : TypeId} {op : Op} {ρ : Operand → D} {ρc : Operand → Value} (h : aopK P s ty op ρ L k kp) (a : AW F L w) (hr : ∀ x ∈ op.operands.toList, Rep F w (ρ x) (ρc x)) (hk : Cont F L w k kc) (hp : ContP F L w kp kpc) :
    opK P ty op ρc w kc kpc := by
  have pu := hk.pure a
  cases op with
  | move x => exact pu _ _ h (hr x (by simp [Op.operands]))
  | assign x => exact pu _ _ h (hr x (by simp [Op.operands]))
  | pick c x y => simp only [aopK] at h; exact apick_ok h (hr c (by simp [Op.operands])) (hr x (by simp [Op.operands])) (hr y (by simp [Op.operands])) pu
  | alloc t =>
    cases s with
    | true => exact h.elim
    | false =>
      simp only [aopK, cond_false] at h
      simp only [opK]
      refine zT_mono h fun z hz => ?_
      rw [Bool.cond_eq_ite] at hz
      split at hz
      · rename_i hzo; exact abx_ok (t := t) hz a (reps_vals (zok_of hzo)) hk
      · exact hz.elim
  | box t x =>
    cases s with
    | true => exact h.elim
    | false => exact abxv_ok (t := t) h a (hr x (by simp [Op.operands])) hk
  | build t ps =>
    have hrp : ∀ p ∈ ps.toList, Rep F w (ρ p.2) (ρc p.2) := fun p hpp => hr p.2 (by simp only [Op.operands]; exact List.mem_map_of_mem hpp)
    simp only [aopK] at h
    simp only [opK]
    cases hu : P.underlying t with
    | none => simp only [hu] at h
    | some d =>
      cases d <;> simp only [hu] at h <;> try exact h.elim
      all_goals
        refine zT_mono h fun z hz => ?_
        rw [Bool.cond_eq_ite] at hz ⊢
        split at hz
        · rename_i hc
          rw [Bool.and_eq_true] at hc
          rw [if_pos hc.2]
          exact abld_ok hz (pts_of hrp) (zok_of hc.1) pu
        · exact hz.elim
  | buildSlice t n ps =>
    have hrp : ∀ p ∈ ps.toList, Rep F w (ρ p.2) (ρc p.2) := fun p hpp => hr p.2 (by simp only [Op.operands]; exact List.mem_map_of_mem hpp)
    simp only [aopK] at h
    simp only [opK]
    cases hu : P.underlying t with
    | none => simp only [hu] at h
    | some d =>
      cases d <;> simp only [hu] at h <;> try exact h.elim
      rename_i el
      refine zT_mono h fun z hz => ?_
      rw [Bool.cond_eq_ite] at hz ⊢
      split at hz
      · rename_i hc
        rw [Bool.and_eq_true] at hc
        rw [if_pos hc.2]
        obtain ⟨hc1, hc2⟩ := hc
        simp only [Bool.and_eq_true, Nat.beq_eq, Nat.ble_eq, len_eq] at hc2
        obtain ⟨⟨⟨h1, h2⟩, h3⟩, h4⟩ := hc2
        have hzl : (reps n z).length = n * sizeT P el := by rw [reps_length, h1]
        have hn : n ≤ 9223372036854775807 := Nat.le_trans (Nat.le_mul_of_pos_right n h2) (Nat.le_trans h3 (by decide))
        have hzo : ∀ v ∈ reps n z, Okv v := fun v hv => zok_of hc1 v (reps_mem hv)
        cases s with
        | true => simp only [cond_true] at hz; exact abldF_ok (t := t) hz a hrp hzo hzl h4 hn fun d L' v w' F' h1 h2 h3 h4 => hk d L' v w' F' (by rw [h1.1]; exact h1.2) h2 h3 h4
        | false => simp only [cond_false] at hz; exact abldS_ok (t := t) hz a hrp hzo hzl h4 hn hk
      · exact hz.elim
  | load t x =>
    simp only [aopK] at h
    simp only [opK]
    cases hu : P.underlying t with
    | none => simp only [hu] at h
    | some d =>
      simp only [hu] at h ⊢
      have hx := hr x (by simp [Op.operands])
      cases hg : isAgg d with
      | true => simp only [hg, cond_true] at h ⊢; exact aldN_ok h a hx pu
      | false => simp only [hg, cond_false] at h ⊢; exact ald1_ok h a hx pu
  | store t x y =>
    cases s with
    | true => exact h.elim
    | false =>
      simp only [aopK, cond_false] at h
      simp only [opK]
      rw [Bool.cond_eq_ite] at h ⊢
      split at h
      · rename_i hc
        rw [if_pos hc]
        rw [Bool.cond_eq_ite] at h
        split at h
        · rename_i hb
          exact ast_ok h (Nat.le_of_ble_eq_true hb) a (hr x (by simp [Op.operands])) (hr y (by simp [Op.operands])) fun L' w' h1 h2 h3 => hk _ _ _ _ _ h1 h2 h3 (rep_val trivial)
        · rw [Bool.cond_eq_ite] at h
          split at h
          · rename_i hz
            rw [Nat.beq_eq] at hz
            rw [hz]
            exact ast0_ok h a (hr x (by simp [Op.operands])) (hr y (by simp [Op.operands])) fun L' w' h1 h2 h3 => hk _ _ _ _ _ h1 h2 h3 (rep_val trivial)
          · exact h.elim
      · exact h.elim
  | nilCheck x => simp only [aopK] at h; exact anilc_ok h (hr x (by simp [Op.operands])) pu
  | binOp q t x y u =>
    simp only [aopK] at h
    simp only [opK]
    have hx := hr x (by simp [Op.operands])
    have hy := hr y (by simp [Op.operands])
    cases hu : P.underlying t with
    | none => simp only [hu] at h
    | some d =>
      cases d <;> simp only [hu] at h ⊢ <;> first
        | exact h.elim
        | exact u2_ok (m_ar q) h hx hy pu
        | exact u2_ok (m_arB q) h hx hy pu
        | exact u2_ok (m_arF q) h hx hy pu
        | exact aeqP_ok h hx hy pu
        | exact aeqS_ok h hx hy pu
        | (cases y with
           | const c => exact aeqI_ok h hx hy pu
           | _ => exact h.elim)
  | unOp q t x =>
    simp only [aopK] at h
    simp only [opK]
    have hx := hr x (by simp [Op.operands])
    cases q <;> simp only at h ⊢ <;> first
      | exact h.elim
      | exact u1_ok m_notb h hx pu
      | exact u1_ok m_neg h hx pu
  | convert s' d x =>
    simp only [aopK] at h
    simp only [opK]
    have hx := hr x (by simp [Op.operands])
    cases hs : P.underlying s' with
    | none => simp only [hs] at h
    | some u =>
      cases hd : P.underlying d with
      | none => simp only [hs, hd] at h
      | some v =>
        cases v <;> simp only [hs, hd] at h ⊢ <;> first
          | exact h.elim
          | exact u1_ok (m_cvI _) h hx pu
  | makeMap t r =>
    cases r with
    | some m => exact h.elim
    | none =>
      cases s with
      | true => exact h.elim
      | false => exact amkM_ok h a hk
  | lookup t x i ok =>
    simp only [aopK] at h
    simp only [opK]
    cases hu : P.underlying t with
    | none => rw [hu] at h; exact h.elim
    | some d =>
      cases d <;> simp only [hu] at h ⊢ <;> try exact h.elim
      refine zV_mono h fun z hz => ?_
      rw [Bool.cond_eq_ite] at hz
      split at hz
      · rename_i hzo; exact alkM_ok hz hzo a (hr x (by simp [Op.operands])) (hr i (by simp [Op.operands])) pu
      · exact hz.elim
  | mapUpdate t m i x =>
    cases s with
    | true => exact h.elim
    | false =>
      simp only [aopK, cond_false] at h
      simp only [opK]
      cases hu : P.underlying t with
      | none => simp only [hu] at h
      | some d =>
        cases d <;> simp only [hu] at h ⊢ <;> try exact h.elim
        exact aupM_ok h a (hr m (by simp [Op.operands])) (hr i (by simp [Op.operands])) (hr x (by simp [Op.operands])) fun L' w' h1 h2 h3 => hk _ _ _ _ _ h1 h2 h3 (rep_val trivial)
  | insert t m i x =>
    cases s with
    | true => exact h.elim
    | false =>
      simp only [aopK, cond_false] at h
      simp only [opK]
      cases hu : P.underlying t with
      | none => simp only [hu] at h
      | some d =>
        cases d <;> simp only [hu] at h ⊢ <;> try exact h.elim
        exact aupM_ok h a (hr m (by simp [Op.operands])) (hr i (by simp [Op.operands])) (hr x (by simp [Op.operands])) fun L' w' h1 h2 h3 => hk _ _ _ _ _ h1 h2 h3 (rep_val trivial)
  | typeAssert x xt t ok =>
    simp only [aopK] at h
    simp only [opK]
    have hx := hr x (by simp [Op.operands])
    cases hu : P.underlying t with
    | none => simp only [hu] at h
    | some d =>
      cases d <;> simp only [hu] at h ⊢ <;> first
        | exact h.elim
        | (refine zV_mono h fun z hz => ?_
           rw [Bool.cond_eq_ite] at hz
           split at hz
           · rename_i hzo; exact atas_ok hz hzo hx pu
           · exact hz.elim)
  | makeFunc fn first cap =>
    simp only [aopK] at h
    simp only [opK]
    cases fn <;> simp only at h <;> try exact h.elim
    refine pu _ _ h ?_
    rw [Rep]
    refine ⟨_, _, rfl, mapO_ok fun x hx => hr x ?_, mapO_ok fun x hx => hr x ?_⟩
    · simp only [Op.operands, Array.toList_append, List.mem_append]; exact .inl hx
    · simp only [Op.operands, Array.toList_append, List.mem_append]; exact .inr hx
  | fieldAddr s' x f =>
    simp only [aopK] at h
    simp only [opK]
    have hx := hr x (by simp [Op.operands])
    cases hu : P.underlying s' with
    | none => simp only [hu] at h
    | some d =>
      cases d <;> simp only [hu] at h ⊢ <;> try exact h.elim
      split at h
      · rename_i hf
        simp only [hf]
        rw [Bool.cond_eq_ite] at h ⊢
        split at h
        · rename_i hc; rw [if_pos hc]; exact afld_ok h hx pu
        · exact h.elim
      · exact h.elim
  | field t x f =>
    simp only [aopK] at h
    simp only [opK]
    have hx := hr x (by simp [Op.operands])
    cases hu : P.underlying t with
    | none => simp only [hu] at h
    | some d =>
      cases d <;> simp only [hu] at h ⊢ <;> try exact h.elim
      split at h
      · rename_i hf
        simp only [hf]
        split at h
        · rename_i hf2
          simp only [hf2]
          rw [Bool.cond_eq_ite] at h ⊢
          split at h
          · rename_i hc; rw [if_pos hc]; exact afieldN_ok h hx pu
          · rename_i hc; rw [if_neg hc]; exact afield1_ok h hx pu
        · exact h.elim
      · exact h.elim
  | indexAddr t x i =>
    simp only [aopK] at h
    simp only [opK]
    have hx := hr x (by simp [Op.operands])
    have hi := hr i (by simp [Op.operands])
    cases hu : P.underlying t with
    | none => simp only [hu] at h
    | some d =>
      cases d <;> simp only [hu] at h ⊢ <;> try exact h.elim
      all_goals
        rw [Bool.cond_eq_ite] at h ⊢
        split at h
        · rename_i hc; rw [if_pos hc]
          first
          | exact aidxS_ok h hx hi pu
          | exact aidxP_ok h hx hi pu
        · exact h.elim
  | index t x i =>
    simp only [aopK] at h
    simp only [opK]
    cases hu : P.underlying t with
    | none => simp only [hu] at h
    | some d =>
      cases d <;> simp only [hu] at h ⊢ <;> try exact h.elim
      exact u2_ok m_idxStr h (hr x (by simp [Op.operands])) (hr i (by simp [Op.operands])) pu
  | extract x j => exact aext_ok h (hr x (by simp [Op.operands])) pu
  | slice t x lo hi mx =>
    cases mx with
    | some m => exact h.elim
    | none =>
      simp only [aopK] at h
      simp only [opK]
      have hx := hr x (by simp [Op.operands])
      have hl : ORep F w (lo.map ρ) (lo.map ρc) := orep_map fun y hy => hr y (by subst hy; simp [Op.operands])
      have hh : ORep F w (hi.map ρ) (hi.map ρc) := orep_map fun y hy => hr y (by subst hy; simp [Op.operands])
      cases hu : P.underlying t with
      | none => simp only [hu] at h
      | some d =>
        cases d <;> simp only [hu] at h ⊢ <;> try exact h.elim
        · exact aslcS_ok h hx hl hh pu
        · rw [Bool.cond_eq_ite] at h ⊢
          split at h
          · rename_i hc; rw [if_pos hc]; exact aslcL_ok h hx hl hh pu
          · exact h.elim
  | makeSlice t x y =>
    cases s with
    | true => exact h.elim
    | false =>
      simp only [aopK, cond_false] at h
      simp only [opK]
      cases hu : P.underlying t with
      | none => simp only [hu] at h
      | some d =>
        cases d <;> simp only [hu] at h ⊢ <;> try exact h.elim
        refine zT_mono h fun z hz => ?_
        rw [Bool.cond_eq_ite] at hz ⊢
        split at hz
        · rename_i hc
          rw [Bool.and_eq_true] at hc
          rw [if_pos hc.2]
          have h1 := hc.2
          rw [Nat.beq_eq, len_eq] at h1
          exact amkS_ok hz a (hr x (by simp [Op.operands])) (hr y (by simp [Op.operands])) (zok_of hc.1) h1 hk
        · exact hz.elim
  | makeInterface t x =>
    simp only [aopK] at h
    simp only [opK]
    cases hu : P.underlying t with
    | none => simp only [hu] at h
    | some d =>
      cases d <;> simp only [hu] at h ⊢ <;> first
        | exact h.elim
        | exact pu _ _ h (by rw [Rep]; exact ⟨_, rfl, hr x (by simp [Op.operands])⟩)
  | panic x =>
    simp only [aopK] at h
    simp only [opK]
    have hx := hr x (by simp [Op.operands])
    split at h
    · rename_i t d hd
      rw [hd] at hx
      have hx' := hx
      rw [Rep] at hx
      obtain ⟨v, hv, _⟩ := hx
      rw [hv] at hx' ⊢
      exact hp _ _ _ _ _ h (Ev.refl ..) a hx'
    · exact h.elim
  | call c =>
    simp only [aopK] at h
    simp only [opK]
    obtain ⟨cal, args, tys⟩ := c
    cases cal with
    | value f =>
      simp only at h ⊢
      refine acallF_ok h a (hr f (by simp [Op.operands, Call.operands])) (mapO_ok fun x hx => hr x ?_) hk hp
      simp [Op.operands, Call.operands, hx]
    | builtin b =>
      simp only at h ⊢
      have hm : ∀ x ∈ args.toList, Rep F w (ρ x) (ρc x) := fun x hx => hr x (by simp [Op.operands, Call.operands]; simpa using hx)
      split at h
      · rename_i x t ha ht
        simp only [ha, ht]
        have hx := hm x (by rw [ha]; simp)
        split at h
        · rename_i hu; simp only [hu]; exact u1_ok m_lenS h hx pu
        · rename_i hu; simp only [hu]; exact alenL_ok h hx pu
        · exact h.elim
      · rename_i x y ha
        simp only [ha]
        exact u2_ok m_max2 h (hm x (by rw [ha]; simp)) (hm y (by rw [ha]; simp)) pu
      · rename_i x y ha
        simp only [ha]
        exact u2_ok m_min2 h (hm x (by rw [ha]; simp)) (hm y (by rw [ha]; simp)) pu
      · rename_i sx x t u ha ht
        simp only [ha, ht]
        cases s with
        | true => exact h.elim
        | false =>
          simp only [cond_false] at h
          split at h
          · rename_i h1 h2
            simp only [h1, h2]
            refine zT_mono h fun z hz => ?_
            rw [Bool.cond_eq_ite] at hz ⊢
            split at hz
            · rename_i hc; rw [if_pos hc]
              exact aapp_ok hz a (hm sx (by rw [ha]; simp)) (hm x (by rw [ha]; simp)) hk
            · exact hz.elim
          · exact h.elim
      · rename_i x t ha ht
        simp only [ha, ht]
        cases s with
        | true => exact h.elim
        | false =>
          simp only [cond_false] at h
          split at h
          · rename_i h1
            simp only [h1]
            refine zT_mono h fun z hz => ?_
            rw [Bool.cond_eq_ite] at hz ⊢
            split at hz
            · rename_i hc
              rw [Bool.and_eq_true] at hc
              have hc1 := hc.1
              rw [Bool.and_eq_true] at hc1
              rw [if_pos hc1.2]
              exact aclr_ok hz (Nat.le_of_ble_eq_true hc.2) a (zok_of hc1.1) (hm x (by rw [ha]; simp)) fun L' w' h3 h4 h5 => hk (.tuple []) L' (.tuple #[]) w' F h3 h4 h5 (by rw [Rep]; exact ⟨[], rfl, reps_nil⟩)
            · exact hz.elim
          · exact h.elim
      · exact h.elim
    | invoke r m => exact h.elim
  | _ => exact h.elim
end
end Go.V
