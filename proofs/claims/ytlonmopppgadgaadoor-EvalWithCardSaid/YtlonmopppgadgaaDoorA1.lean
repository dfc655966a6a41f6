/- Data in memory: what stays when memory grows; own blocks made and written. -/
import Derived.Test.YtlonmopppgadgaaDoorA0
import Derived.Test.YtlonmopppgadgaaDoorV1
set_option linter.unusedVariables false
namespace Go.V
open Go

/-! ### lists of values -/
section
variable {F F' : Nat → Prop} {w w' : World}
theorem Reps.length : ∀ {l : List D} {vs : List Value}, Reps F w l vs → vs.length = l.length
  | [], _, h => by rw [Reps] at h; rw [h]; rfl
  | _ :: _, _, h => by rw [Reps] at h; obtain ⟨v, r, rfl, _, h⟩ := h; simp [Reps.length h]
theorem reps_nil : Reps F w [] [] := by rw [Reps]
theorem reps_cons {d : D} {l : List D} {v : Value} {vs : List Value} (h : Rep F w d v) (h' : Reps F w l vs) : Reps F w (d :: l) (v :: vs) := by rw [Reps]; exact ⟨v, vs, rfl, h, h'⟩
theorem Reps.get : ∀ {l : List D} {vs : List Value}, Reps F w l vs → ∀ {i : Nat} {d : D}, l[i]? = some d → ∃ v, vs[i]? = some v ∧ Rep F w d v
  | [], _, _, i, d, hd => by simp at hd
  | _ :: _, _, h, 0, d, hd => by
    rw [Reps] at h; obtain ⟨v, r, rfl, h1, _⟩ := h
    simp at hd; subst hd; exact ⟨v, rfl, h1⟩
  | _ :: _, _, h, i + 1, d, hd => by
    rw [Reps] at h; obtain ⟨v, r, rfl, _, h⟩ := h
    simpa using Reps.get h (by simpa using hd)
theorem Reps.append : ∀ {l m : List D} {vs us : List Value}, Reps F w l vs → Reps F w m us → Reps F w (l ++ m) (vs ++ us)
  | [], _, _, _, h, h' => by rw [Reps] at h; rw [h]; exact h'
  | _ :: _, _, _, _, h, h' => by
    rw [Reps] at h; obtain ⟨v, r, rfl, h1, h⟩ := h
    exact reps_cons h1 (Reps.append h h')
theorem Reps.take : ∀ (n : Nat) {l : List D} {vs : List Value}, Reps F w l vs → Reps F w (l.take n) (vs.take n)
  | 0, _, _, _ => by simpa using reps_nil
  | _ + 1, [], _, h => by rw [Reps] at h; rw [h]; simpa using reps_nil
  | n + 1, _ :: _, _, h => by
    rw [Reps] at h; obtain ⟨v, r, rfl, h1, h⟩ := h
    exact reps_cons h1 (Reps.take n h)
theorem Reps.drop : ∀ (n : Nat) {l : List D} {vs : List Value}, Reps F w l vs → Reps F w (l.drop n) (vs.drop n)
  | 0, _, _, h => h
  | _ + 1, [], _, h => by rw [Reps] at h; rw [h]; simpa using reps_nil
  | n + 1, _ :: _, _, h => by
    rw [Reps] at h; obtain ⟨v, r, rfl, h1, h⟩ := h
    exact Reps.drop n h
theorem Reps.one {d : D} {vs : List Value} (h : Reps F w [d] vs) : ∃ v, vs = [v] ∧ Rep F w d v := by
  rw [Reps] at h; obtain ⟨v, r, rfl, h1, h⟩ := h
  rw [Reps] at h; subst h; exact ⟨v, rfl, h1⟩
theorem reps_vals : ∀ {z : List Value}, (∀ v ∈ z, Okv v) → Reps F w (vals z) z
  | [], _ => reps_nil
  | v :: z, h => by
    rw [vals]; exact reps_cons (by rw [Rep]; exact ⟨rfl, h v (by simp)⟩) (reps_vals fun u hu => h u (by simp [hu]))
theorem vals_eq (z : List Value) : vals z = z.map .val := by
  induction z with
  | nil => rfl
  | cons v z ih => rw [vals, ih]; rfl
theorem rep_one {d : D} {v : Value} (hd : d.one = true) (h : Rep F w d v) : v.oneCell' = true := by
  cases d with
  | val u => rw [Rep] at h; rw [h.1]; cases u <;> first | rfl | cases hd
  | agg l => cases hd
  | tuple l => cases hd
  | row sz l => rw [Rep] at h; obtain ⟨p, c, rfl, _⟩ := h; rfl
  | pin l => rw [Rep] at h; obtain ⟨b, o, vs, rfl, _⟩ := h; rfl
  | fn f a c => rw [Rep] at h; obtain ⟨a, c, rfl, _⟩ := h; rfl
  | ifc t d => rw [Rep] at h; obtain ⟨v, rfl, _⟩ := h; rfl
  | top => cases hd
theorem reps_one : ∀ {l : List D} {vs : List Value}, l.all D.one = true → Reps F w l vs → ∀ u ∈ vs, u.oneCell' = true
  | [], _, _, h, u, hu => by rw [Reps] at h; rw [h] at hu; cases hu
  | d :: l, _, ha, h, u, hu => by
    rw [Reps] at h; obtain ⟨v, r, rfl, h1, h⟩ := h
    rw [List.all_cons, Bool.and_eq_true] at ha
    rcases List.mem_cons.1 hu with rfl | hu
    · exact rep_one ha.1 h1
    · exact reps_one ha.2 h u hu
theorem rep_cl {d : D} {v : Value} (hd : (cl d).all D.one = true) (h : Rep F w d v) : Reps F w (cl d) v.cells.toList ∧ ∀ u ∈ v.cells.toList, u.oneCell' = true := by
  have key : Reps F w (cl d) v.cells.toList := by
    unfold cl at hd ⊢
    split
    · rename_i l
      rw [Rep] at h; obtain ⟨vs, rfl, h⟩ := h
      simpa [Value.cells] using h
    · rename_i hne
      split at hd
      · rename_i l; exact absurd rfl (hne l)
      · have h1 := rep_one (by simpa using hd) h
        rw [toList_cells_one v h1]
        exact reps_cons h reps_nil
  exact ⟨key, reps_one hd key⟩

/-! ### rows -/
theorem Rws.get {sz b : Nat} : ∀ {l : List (List D)} {o : Nat}, Rws F w sz l b o → ∀ {i : Nat} {e : List D}, l[i]? = some e → ∃ vs, Reps F w e vs ∧ vs.length = sz ∧ Cells w ⟨b, o + i * sz, none⟩ vs
  | [], _, _, i, e, he => by simp at he
  | _ :: _, o, h, 0, e, he => by
    rw [Rws] at h; simp at he; subst he; simpa using h.1
  | _ :: _, o, h, i + 1, e, he => by
    rw [Rws] at h
    obtain ⟨vs, h1, h2, h3⟩ := Rws.get h.2 (i := i) (by simpa using he)
    refine ⟨vs, h1, h2, ?_⟩
    have e1 : o + sz + i * sz = o + (i + 1) * sz := by rw [Nat.add_mul]; omega
    rw [← e1]; exact h3
theorem Rws.drop {sz b : Nat} : ∀ (n : Nat) {l : List (List D)} {o : Nat}, Rws F w sz l b o → Rws F w sz (l.drop n) b (o + n * sz)
  | 0, _, _, h => by simpa using h
  | _ + 1, [], _, h => by rw [List.drop_nil, Rws]; trivial
  | n + 1, _ :: _, o, h => by
    rw [Rws] at h
    have := Rws.drop n h.2
    have e1 : o + sz + n * sz = o + (n + 1) * sz := by rw [Nat.add_mul]; omega
    rw [← e1]; exact this
theorem Rws.take {sz b : Nat} : ∀ (n : Nat) {l : List (List D)} {o : Nat}, Rws F w sz l b o → Rws F w sz (l.take n) b o
  | 0, _, _, h => by rw [List.take_zero, Rws]; trivial
  | _ + 1, [], _, h => by rw [List.take_nil, Rws]; trivial
  | n + 1, _ :: _, o, h => by
    rw [Rws] at h; rw [List.take_succ_cons, Rws]
    exact ⟨h.1, Rws.take n h.2⟩
theorem cells_append {a : Nat} {o : Nat} {vs us : List Value} (h : Cells w ⟨a, o, none⟩ vs) (h' : Cells w ⟨a, o + vs.length, none⟩ us) : Cells w ⟨a, o, none⟩ (vs ++ us) := by
  intro i hi
  rw [add_plain]
  by_cases hlt : i < vs.length
  · have := h i hlt
    rw [add_plain] at this
    rw [this, List.getElem_append_left hlt]
  · have := h' (i - vs.length) (by simp at hi; omega)
    rw [add_plain] at this
    rw [List.getElem_append_right (by omega), ← this]
    congr 2
    omega
theorem Cells.take {a : Addr} {vs : List Value} (n : Nat) (h : Cells w a vs) : Cells w a (vs.take n) := by
  intro i hi
  simp only [List.length_take] at hi
  rw [h i (by omega)]; simp
theorem Cells.drop {b o : Nat} {vs : List Value} (n : Nat) (h : Cells w ⟨b, o, none⟩ vs) : Cells w ⟨b, o + n, none⟩ (vs.drop n) := by
  intro i hi
  simp only [List.length_drop] at hi
  have := h (n + i) (by omega)
  rw [add_plain] at this ⊢
  rw [Nat.add_assoc, this]; simp
theorem Rws.flat {sz b : Nat} : ∀ {l : List (List D)} {o : Nat}, Rws F w sz l b o → ∃ vs, Reps F w l.flatten vs ∧ vs.length = l.length * sz ∧ Cells w ⟨b, o, none⟩ vs
  | [], _, _ => ⟨[], reps_nil, by simp, fun i hi => by simp at hi⟩
  | _ :: _, o, h => by
    rw [Rws] at h
    obtain ⟨⟨vs, h1, h2, h3⟩, h⟩ := h
    obtain ⟨us, h4, h5, h6⟩ := Rws.flat h
    refine ⟨vs ++ us, by rw [List.flatten_cons]; exact h1.append h4, by simp [h2, h5, Nat.add_mul]; omega, cells_append h3 (by rw [h2]; exact h6)⟩
theorem rws_chunk {sz b : Nat} : ∀ (n : Nat) {l : List D} {vs : List Value} {o : Nat}, Reps F w l vs → Cells w ⟨b, o, none⟩ vs → n * sz ≤ vs.length → Rws F w sz (chunk sz n l) b o
  | 0, _, _, _, _, _, _ => by rw [chunk, Rws]; trivial
  | n + 1, l, vs, o, h, hc, hn => by
    rw [Nat.add_mul] at hn
    rw [chunk, Rws]
    refine ⟨⟨vs.take sz, h.take sz, by simp; omega, hc.take sz⟩, rws_chunk n (h.drop sz) (hc.drop sz) (by simp; omega)⟩
theorem chunk_length (sz : Nat) : ∀ (n : Nat) (l : List D), (chunk sz n l).length = n
  | 0, _ => rfl
  | n + 1, l => by rw [chunk, List.length_cons, chunk_length]

/-! ### what stays -/
variable {L L' L'' : List Bx} {w'' : World} {F'' : Nat → Prop}
theorem Ev.refl (F : Nat → Prop) (L : List Bx) (w : World) : Ev F L w F L w := ⟨rfl, rfl, rfl, Nat.le_refl _, fun _ _ _ => rfl, fun _ h => h, fun _ _ h => .inl h, fun x hx _ => ⟨x, hx, rfl⟩, Nat.le_refl _⟩
theorem Ev.trans (h : Ev F L w F' L' w') (h' : Ev F' L' w' F'' L'' w'') : Ev F L w F'' L'' w'' := by
  refine ⟨h'.os.trans h.os, h'.tape.trans h.tape, h'.output.trans h.output, Nat.le_trans h.size h'.size, fun k hk hn => ?_, fun k hk => h'.grow k (h.grow k hk), fun k hk hf => ?_, fun x hx hl => ?_, Nat.le_trans h.drawn h'.drawn⟩
  · rw [h'.block k (Nat.lt_of_lt_of_le hk h.size) ?_, h.block k hk hn]
    intro x hx he
    obtain ⟨y, hy, hye⟩ := h.own x hx (by rw [he]; exact hk)
    exact hn y hy (hye.trans he)
  · rcases h'.old k (Nat.lt_of_lt_of_le hk h.size) hf with hf | ⟨x, hx, he⟩
    · exact h.old k hk hf
    · obtain ⟨y, hy, hye⟩ := h.own x hx (by rw [he]; exact hk)
      exact .inr ⟨y, hy, hye.trans he⟩
  · obtain ⟨y, hy, hye⟩ := h'.own x hx (Nat.lt_of_lt_of_le hl h.size)
    obtain ⟨z, hz, hze⟩ := h.own y hy (by rw [hye]; exact hl)
    exact ⟨z, hz, hze.trans hye⟩
theorem Ev.cells (h : Ev F L w F' L' w') {b o : Nat} {vs : List Value} (hb : b < w.heap.size) (hn : ∀ x ∈ L, x.b ≠ b) (hc : Cells w ⟨b, o, none⟩ vs) : Cells w' ⟨b, o, none⟩ vs := by
  intro i hi
  have := hc i hi
  rw [add_plain] at this ⊢
  unfold World.cell? at this ⊢
  simp only at this ⊢
  rw [h.block b hb hn]; exact this
/-- what a set of blocks leads to stays, if those blocks stay -/
structure Keeps (F : Nat → Prop) (w : World) (F' : Nat → Prop) (w' : World) : Prop where
  size : w.heap.size ≤ w'.heap.size
  grow : ∀ k, k < w.heap.size → F k → F' k
  block : ∀ k, k < w.heap.size → F k → w'.heap[k]? = w.heap[k]?
theorem Keeps.cells (h : Keeps F w F' w') {b o : Nat} {vs : List Value} (hb : b < w.heap.size) (hf : F b) (hc : Cells w ⟨b, o, none⟩ vs) : Cells w' ⟨b, o, none⟩ vs := by
  intro i hi
  have := hc i hi
  rw [add_plain] at this ⊢
  unfold World.cell? at this ⊢
  simp only at this ⊢
  rw [h.block b hb hf]; exact this
mutual
theorem Rep.keep (x : Keeps F w F' w') : ∀ (d : D) (v : Value), Rep F w d v → Rep F' w' d v
  | .val v, u, h => by rw [Rep] at h ⊢; exact h
  | .agg l, u, h => by
    rw [Rep] at h ⊢
    obtain ⟨vs, rfl, h⟩ := h
    exact ⟨vs, rfl, Reps.keep x l vs h⟩
  | .tuple l, u, h => by
    rw [Rep] at h ⊢
    obtain ⟨vs, rfl, h⟩ := h
    exact ⟨vs, rfl, Reps.keep x l vs h⟩
  | .row sz l, u, h => by
    rw [Rep] at h ⊢
    obtain ⟨p, c, rfl, hc, h | ⟨b, o, rfl, hf, hb, h⟩⟩ := h
    · exact ⟨p, c, rfl, hc, .inl h⟩
    · exact ⟨_, c, rfl, hc, .inr ⟨b, o, rfl, x.grow b hb hf, Nat.lt_of_lt_of_le hb x.size, Rws.keep x sz l b o hf hb h⟩⟩
  | .pin l, u, h => by
    rw [Rep] at h ⊢
    obtain ⟨b, o, vs, rfl, hf, hb, h, hc⟩ := h
    exact ⟨b, o, vs, rfl, x.grow b hb hf, Nat.lt_of_lt_of_le hb x.size, Reps.keep x l vs h, x.cells hb hf hc⟩
  | .fn f a c, u, h => by
    rw [Rep] at h ⊢
    obtain ⟨as, cs, rfl, h1, h2⟩ := h
    exact ⟨as, cs, rfl, Reps.keep x a as h1, Reps.keep x c cs h2⟩
  | .ifc t d, u, h => by
    rw [Rep] at h ⊢
    obtain ⟨v, rfl, h⟩ := h
    exact ⟨v, rfl, Rep.keep x d v h⟩
  | .top, u, h => by rw [Rep]; trivial
theorem Reps.keep (x : Keeps F w F' w') : ∀ (l : List D) (vs : List Value), Reps F w l vs → Reps F' w' l vs
  | [], vs, h => by rw [Reps] at h ⊢; exact h
  | d :: l, vs, h => by
    rw [Reps] at h ⊢
    obtain ⟨v, r, rfl, h1, h2⟩ := h
    exact ⟨v, r, rfl, Rep.keep x d v h1, Reps.keep x l r h2⟩
theorem Rws.keep (x : Keeps F w F' w') (sz : Nat) : ∀ (l : List (List D)) (b o : Nat), F b → b < w.heap.size → Rws F w sz l b o → Rws F' w' sz l b o
  | [], _, _, _, _, _ => by rw [Rws]; trivial
  | d :: l, b, o, hf, hb, h => by
    rw [Rws] at h ⊢
    obtain ⟨⟨vs, h1, h2, h3⟩, h4⟩ := h
    exact ⟨⟨vs, Reps.keep x d vs h1, h2, x.cells hb hf h3⟩, Rws.keep x sz l b (o + sz) hf hb h4⟩
end
mutual
theorem Rep.small : ∀ (d : D) (v : Value), Rep F w d v → Small d
  | .val v, u, h => by rw [Rep] at h; rw [Small]; exact h.2
  | .agg l, u, h => by rw [Rep] at h; obtain ⟨vs, rfl, h⟩ := h; rw [Small]; exact Reps.small l vs h
  | .tuple l, u, h => by rw [Rep] at h; obtain ⟨vs, rfl, h⟩ := h; rw [Small]; exact Reps.small l vs h
  | .row sz l, u, h => by
    rw [Rep] at h; rw [Small]
    obtain ⟨p, c, rfl, hc, h⟩ := h
    refine ⟨Nat.le_trans hc.1 hc.2, ?_⟩
    rcases h with rfl | ⟨b, o, rfl, hf, hb, h⟩
    · rw [Smallr]; trivial
    · exact Rws.small sz l b o h
  | .pin l, u, h => by rw [Rep] at h; obtain ⟨b, o, vs, rfl, hf, hb, h, hc⟩ := h; rw [Small]; exact Reps.small l vs h
  | .fn f a c, u, h => by rw [Rep] at h; obtain ⟨as, cs, rfl, h1, h2⟩ := h; rw [Small]; exact ⟨Reps.small a as h1, Reps.small c cs h2⟩
  | .ifc t d, u, h => by rw [Rep] at h; obtain ⟨v, rfl, h⟩ := h; rw [Small]; exact Rep.small d v h
  | .top, u, h => by rw [Small]; trivial
theorem Reps.small : ∀ (l : List D) (vs : List Value), Reps F w l vs → Smalls l
  | [], vs, h => by rw [Smalls]; trivial
  | d :: l, vs, h => by
    rw [Reps] at h; obtain ⟨v, r, rfl, h1, h2⟩ := h; rw [Smalls]
    exact ⟨Rep.small d v h1, Reps.small l r h2⟩
theorem Rws.small (sz : Nat) : ∀ (l : List (List D)) (b o : Nat), Rws F w sz l b o → Smallr l
  | [], _, _, _ => by rw [Smallr]; trivial
  | d :: l, b, o, h => by
    rw [Rws] at h; obtain ⟨⟨vs, h1, h2, h3⟩, h4⟩ := h; rw [Smallr]
    exact ⟨Reps.small d vs h1, Rws.small sz l b (o + sz) h4⟩
end
theorem AW.ne (a : AW F L w) {b : Nat} (hf : F b) : ∀ x ∈ L, x.b ≠ b := fun x hx he => a.sep x hx (he ▸ hf)
theorem Ev.keeps (h : Ev F L w F' L' w') (a : AW F L w) : Keeps F w F' w' := ⟨h.size, fun k _ hk => h.grow k hk, fun k hk hf => h.block k hk (a.ne hf)⟩
theorem Rep.ev {d : D} {v : Value} (r : Rep F w d v) (h : Ev F L w F' L' w') (a : AW F L w) : Rep F' w' d v := Rep.keep (h.keeps a) d v r
theorem Reps.ev {l : List D} {v : List Value} (r : Reps F w l v) (h : Ev F L w F' L' w') (a : AW F L w) : Reps F' w' l v := Reps.keep (h.keeps a) l v r

/-! ### own blocks -/
theorem BxOk.lt {x : Bx} (h : BxOk F w x) : x.b < w.heap.size := by
  rcases h with ⟨⟨es, ces, clock, _, _, h, _⟩ | ⟨c, t, vs, h, _⟩⟩
  · exact (Array.getElem?_eq_some_iff.1 h).1
  · exact (Array.getElem?_eq_some_iff.1 h).1
theorem MReps.map (k : ∀ d v, Rep F w d v → Rep F' w' d v) : ∀ {es : List (Value × D)} {l : List MapEntry}, MReps F w es l → MReps F' w' es l
  | [], _, h => h
  | (_, d) :: _, _, ⟨e, s, h1, h2, h3, h4⟩ => ⟨e, s, h1, h2, k _ _ h3, MReps.map k h4⟩
theorem MReps.keep (k : Keeps F w F' w') {es : List (Value × D)} {l : List MapEntry} (h : MReps F w es l) : MReps F' w' es l := h.map fun d v => Rep.keep k d v
theorem BxOk.keep {x : Bx} (h : BxOk F w x) (k : Keeps F w F' w') (e : w'.heap[x.b]? = w.heap[x.b]?) : BxOk F' w' x := by
  rcases h with ⟨⟨es, ces, clock, h0, h1, h2, h3, h4⟩ | ⟨c, t, vs, h1, h2, h3⟩⟩
  · exact ⟨.inl ⟨es, ces, clock, h0, h1, by rw [e]; exact h2, h3.keep k, h4⟩⟩
  · exact ⟨.inr ⟨c, t, vs, by rw [e]; exact h1, Reps.keep k _ _ h2, h3⟩⟩
/-- one that is no map -/
theorem BxOk.row {x : Bx} (h : BxOk F w x) (hk : ∀ es, x.k ≠ .map es) : ∃ c t vs, w.heap[x.b]? = some (.cells c t (0, 0)) ∧ Reps F w x.l vs ∧ vs = c.toList.take x.l.length ∧ KdOk t c x.l.length x.k := by
  rcases h.has with ⟨es, _, _, h0, _⟩ | h
  · exact absurd h0 (hk es)
  · exact h
theorem BxOk.full {x : Bx} (h : BxOk F w x) (hl : 0 < x.l.length) : ∃ c t vs, w.heap[x.b]? = some (.cells c t (0, 0)) ∧ Reps F w x.l vs ∧ vs = c.toList.take x.l.length ∧ KdOk t c x.l.length x.k := by
  rcases h.has with ⟨es, _, _, _, h0, _⟩ | h
  · rw [h0] at hl; exact absurd hl (Nat.lt_irrefl 0)
  · exact h
theorem AW.at (a : AW F L w) {i : Nat} {x : Bx} (h : L[i]? = some x) : BxOk F w x := a.own x (List.mem_of_getElem? h)
theorem cells_of {b : Nat} {c : Array Value} {t : TypeId} (h : w.heap[b]? = some (.cells c t (0, 0))) (o n : Nat) : Cells w ⟨b, o, none⟩ ((c.toList.drop o).take n) := by
  intro i hi
  simp only [List.length_take, List.length_drop] at hi
  have h1 : o + i < c.toList.length := by omega
  rw [add_plain]
  simp only [World.cell?, h, List.getElem_take, List.getElem_drop]
  simp
theorem BxOk.cells {x : Bx} (h : BxOk F w x) (o n : Nat) (hn : o + n ≤ x.l.length) : ∃ vs, Reps F w ((x.l.drop o).take n) vs ∧ vs.length = n ∧ Cells w ⟨x.b, o, none⟩ vs := by
  rcases Nat.eq_zero_or_pos x.l.length with hz | hz
  · have : n = 0 := by omega
    subst this
    exact ⟨[], by rw [List.take_zero]; exact reps_nil, rfl, fun i hi => by simp at hi⟩
  obtain ⟨c, t, vs, h1, h2, h3, _⟩ := h.full hz
  refine ⟨(vs.drop o).take n, (h2.drop o).take n, by have := h2.length; simp; omega, ?_⟩
  have e : (vs.drop o).take n = (c.toList.drop o).take n := by
    rw [h3, List.drop_take, List.take_take]
    congr 1
    omega
  rw [e]
  exact cells_of h1 o n
theorem BxOk.cell {x : Bx} (h : BxOk F w x) {o : Nat} {d : D} (hd : x.l[o]? = some d) : ∃ v, w.cell? ⟨x.b, o, none⟩ = some v ∧ Rep F w d v := by
  obtain ⟨c, t, vs, h1, h2, h3, _⟩ := h.full (by have := (List.getElem?_eq_some_iff.1 hd).1; omega)
  obtain ⟨v, hv, hr⟩ := h2.get hd
  refine ⟨v, ?_, hr⟩
  rw [h3, List.getElem?_take] at hv
  split at hv
  · simp only [World.cell?, h1]
    simpa using hv
  · cases hv
/-- a new own block -/
theorem AW.push (a : AW F L w) {l : List D} {vs : List Value} {t : TypeId} {kd : Kd} (h : Reps F w l vs) (us : List Value) (hk : KdOk t (vs ++ us).toArray l.length kd) :
    AW F (⟨w.heap.size, l, kd⟩ :: L) (w.alloc (.cells (vs ++ us).toArray t)) ∧ Ev F L w F (⟨w.heap.size, l, kd⟩ :: L) (w.alloc (.cells (vs ++ us).toArray t)) := by
  have old : ∀ k, k < w.heap.size → (w.alloc (.cells (vs ++ us).toArray t)).heap[k]? = w.heap[k]? := fun k hk => by
    show (w.heap.push _)[k]? = _
    rw [Array.getElem?_push, if_neg (Nat.ne_of_lt hk)]
  have ks : Keeps F w F (w.alloc (.cells (vs ++ us).toArray t)) := ⟨by simp, fun _ _ h => h, fun k hk _ => old k hk⟩
  refine ⟨⟨?_, ?_, ?_, ?_⟩, ⟨rfl, rfl, rfl, by simp, fun k hk _ => old k hk, fun _ h => h, fun _ _ h => .inl h, ?_, Nat.le_refl _⟩⟩
  · intro x hx
    rcases List.mem_cons.1 hx with rfl | hx
    · refine ⟨.inr ⟨_, t, vs, ?_, Reps.keep ks _ _ h, ?_, hk⟩⟩
      · show (w.heap.push _)[w.heap.size]? = _
        rw [Array.getElem?_push, if_pos rfl]
      · have := h.length; simp [← this]
    · exact (a.own x hx).keep ks (old _ (a.own x hx).lt)
  · simp only [List.map_cons, List.nodup_cons]
    refine ⟨fun hh => ?_, a.nodup⟩
    obtain ⟨x, hx, he⟩ := List.mem_map.1 hh
    have := (a.own x hx).lt
    omega
  · intro x hx hf
    rcases List.mem_cons.1 hx with rfl | hx
    · exact absurd (a.lt _ hf) (by simp)
    · exact a.sep x hx hf
  · intro b hb
    exact Nat.lt_of_lt_of_le (a.lt b hb) (by simp)
  · intro x hx hl
    rcases List.mem_cons.1 hx with rfl | hx
    · exact absurd hl (by simp)
    · exact ⟨x, hx, rfl⟩
/-- a new block that stays as it is -/
theorem AW.lay (a : AW F L w) (o : Obj) :
    AW (fun b => F b ∨ b = w.heap.size) L (w.alloc o) ∧ Ev F L w (fun b => F b ∨ b = w.heap.size) L (w.alloc o) := by
  have old : ∀ k, k < w.heap.size → (w.alloc o).heap[k]? = w.heap[k]? := fun k hk => by
    show (w.heap.push _)[k]? = _
    rw [Array.getElem?_push, if_neg (Nat.ne_of_lt hk)]
  have ks : Keeps F w (fun b => F b ∨ b = w.heap.size) (w.alloc o) := ⟨by simp, fun _ _ h => .inl h, fun k hk _ => old k hk⟩
  refine ⟨⟨?_, a.nodup, ?_, ?_⟩, ⟨rfl, rfl, rfl, by simp, fun k hk _ => old k hk, fun _ h => .inl h, fun k hk h => h.elim .inl fun h => absurd hk (by omega), fun x hx _ => ⟨x, hx, rfl⟩, Nat.le_refl _⟩⟩
  · intro x hx
    exact (a.own x hx).keep ks (old _ (a.own x hx).lt)
  · rintro x hx (hf | hf)
    · exact a.sep x hx hf
    · have := (a.own x hx).lt; omega
  · rintro b (hb | hb)
    · exact Nat.lt_of_lt_of_le (a.lt b hb) (by simp)
    · simp [hb]
/-- one own block becomes another: it was written, or a new one took its place -/
theorem AW.swap (a : AW F L w) {i : Nat} {x y : Bx} (hi : L[i]? = some x) (hs : w.heap.size ≤ w'.heap.size) (ho : w'.os = w.os ∧ w'.tape = w.tape ∧ w'.output = w.output ∧ w.drawn ≤ w'.drawn) (hb : ∀ k, k < w.heap.size → k ≠ x.b → w'.heap[k]? = w.heap[k]?)
    (hy : y.b = x.b ∨ w.heap.size ≤ y.b) (oy : BxOk F w' y) : AW F (L.set i y) w' ∧ Ev F L w F (L.set i y) w' := by
  have ks : Keeps F w F w' := ⟨hs, fun _ _ h => h, fun k hk hf => hb k hk fun e => a.sep x (List.mem_of_getElem? hi) (e ▸ hf)⟩
  have hil : i < L.length := (List.getElem?_eq_some_iff.1 hi).1
  have hiv : L[i] = x := (List.getElem?_eq_some_iff.1 hi).2
  have hxm : x ∈ L := List.mem_of_getElem? hi
  have hxl := (a.own x hxm).lt
  have nd := a.nodup
  have apart : ∀ j (hj : j < L.length), j ≠ i → L[j].b ≠ x.b := by
    intro j hj hji e
    have e1 : (L.map Bx.b)[j]'(by simpa using hj) = (L.map Bx.b)[i]'(by simpa using hil) := by simp [hiv, e]
    exact hji ((List.getElem_inj nd).1 e1)
  refine ⟨⟨?_, ?_, ?_, fun b h => Nat.lt_of_lt_of_le (a.lt b h) hs⟩, ⟨ho.1, ho.2.1, ho.2.2.1, hs, fun k hk hn => hb k hk fun e => hn x hxm e.symm, fun _ h => h, fun _ _ h => .inl h, ?_, ho.2.2.2⟩⟩
  · intro z hz
    obtain ⟨j, hj, rfl⟩ := List.mem_iff_getElem.1 hz
    have hj' : j < L.length := by simpa using hj
    rw [List.getElem_set]
    split
    · exact oy
    · next h =>
      exact (a.own _ (List.getElem_mem hj')).keep ks (hb _ (a.own _ (List.getElem_mem hj')).lt (apart j hj' fun e => h e.symm))
  · rw [List.map_set]
    have key : ∀ j (hj : j < L.length), j ≠ i → L[j].b ≠ y.b := by
      intro j hj hji e
      rcases hy with hy | hy
      · exact apart j hj hji (e.trans hy)
      · have := (a.own _ (List.getElem_mem hj)).lt; omega
    unfold List.Nodup at nd ⊢
    rw [List.pairwise_iff_getElem] at nd ⊢
    intro p q hp hq hpq
    simp only [List.length_set, List.length_map] at hp hq
    rw [List.getElem_set, List.getElem_set]
    have := nd p q (by simpa using hp) (by simpa using hq) hpq
    simp only [List.getElem_map] at this ⊢
    by_cases hp' : i = p
    · subst hp'
      rw [if_pos rfl, if_neg (by omega)]
      exact fun e => key q hq (by omega) e.symm
    · rw [if_neg hp']
      by_cases hq' : i = q
      · subst hq'
        rw [if_pos rfl]
        exact fun e => key p hp (by omega) e
      · rw [if_neg hq']; exact this
  · intro z hz hf
    obtain ⟨j, hj, rfl⟩ := List.mem_iff_getElem.1 hz
    rw [List.getElem_set] at hf
    split at hf
    · rcases hy with hy | hy
      · rw [hy] at hf; exact a.sep x hxm hf
      · have := a.lt _ hf; omega
    · exact a.sep _ (List.getElem_mem _) hf
  · intro z hz hl
    obtain ⟨j, hj, rfl⟩ := List.mem_iff_getElem.1 hz
    rw [List.getElem_set] at hl ⊢
    split
    · next h =>
      rw [if_pos h] at hl
      rcases hy with hy | hy
      · exact ⟨x, hxm, hy.symm⟩
      · omega
    · exact ⟨_, List.getElem_mem _, rfl⟩
end
end Go.V
