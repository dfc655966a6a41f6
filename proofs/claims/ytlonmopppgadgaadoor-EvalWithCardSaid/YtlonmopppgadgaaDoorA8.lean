/- Calls among more own blocks; what is own is given up; one step at a time. -/
import Derived.Test.YtlonmopppgadgaaDoorA7
set_option linter.unusedVariables false
namespace Go.V
open Go
section
variable {P : Program} {F F' F1 : Nat → Prop} {w w' : World} {L L' L1 L2 M : List Bx} {g : FuncId} {args args' : List D} {R R' : AE → List Bx → Prop}

theorem ASpec.mono (h : ASpec P g args L R) (hr : ∀ a L', R a L' → R' a L') : ASpec P g args L R' :=
  fun F w vs a hv => (h F w vs a hv).mono fun e w' ⟨ae, F', L', h1, h2, h3, h4⟩ => ⟨ae, F', L', h1, h2, h3, hr _ _ h4⟩
/-- a call of one that asks for fewer -/
theorem ASpec.frame (h : ASpec P g args L R) (hp : L1.Perm (L ++ M)) : ASpec P g args L1 fun a L' => ∃ L2, L' = L2 ++ M ∧ R a L2 := by
  intro F w vs a hv
  have a1 := a.perm hp
  refine (h F w vs a1.left hv).mono ?_
  rintro e w' ⟨ae, F', L', h1, h2, h3, h4⟩
  obtain ⟨q1, q2⟩ := a1.frame h1 h2
  exact ⟨ae, F', L' ++ M, q2.perm hp.symm (List.Perm.refl _), q1, h3, L', rfl, h4⟩
/-- the own blocks that are left, in another order -/
theorem ASpec.permOut (h : ASpec P g args L R) (hr : ∀ a L', R a L' → ∃ L2, L'.Perm L2 ∧ R' a L2) : ASpec P g args L R' :=
  fun F w vs a hv => (h F w vs a hv).mono fun e w' ⟨ae, F', L', h1, h2, h3, h4⟩ => by
    obtain ⟨L2, hp, hr⟩ := hr _ _ h4
    exact ⟨ae, F', L2, h1.perm (List.Perm.refl _) hp, h2.perm hp, h3, hr⟩
theorem perm_erase {i : Nat} {x : Bx} (hi : L[i]? = some x) : L.Perm ([x] ++ L.eraseIdx i) := by
  obtain ⟨h, rfl⟩ := List.getElem?_eq_some_iff.1 hi
  clear hi
  induction L generalizing i with
  | nil => simp at h
  | cons y L ih =>
    cases i with
    | zero => simp
    | succ i =>
      have := ih (i := i) (by simpa using h)
      simp only [List.getElem_cons_succ, List.eraseIdx_cons_succ, List.singleton_append] at this ⊢
      exact (List.Perm.cons y this).trans (List.Perm.swap ..)
theorem perm_set {i : Nat} {x y : Bx} (hi : L[i]? = some x) : ([y] ++ L.eraseIdx i).Perm (L.set i y) := by
  have h : (L.set i y)[i]? = some y := by
    obtain ⟨h, _⟩ := List.getElem?_eq_some_iff.1 hi
    simp [h]
  have := (perm_erase h).symm
  rwa [List.eraseIdx_set_eq] at this
theorem AFn.frame {ae : AE} (h : AFn P g args [] ae) : AFn P g args L ae :=
  (ASpec.frame (M := L) h (List.Perm.refl _)).mono fun a L' ⟨L2, h1, h2, h3⟩ => ⟨h2, by rw [h1, h3]; rfl⟩
theorem AFn.frame1 {ae : AE} {x : Bx} (i : Nat) (hi : L[i]? = some x) (h : AFn P g args [x] ae) : AFn P g args L ae :=
  (ASpec.frame (M := L.eraseIdx i) h (perm_erase hi)).permOut fun a L' ⟨L2, h1, h2, h3⟩ => ⟨L, by rw [h1, h3]; exact (perm_erase hi).symm, h2, rfl⟩

/-! ### what is own may be given up -/
theorem Gl.refl (ds : List D) (L : List Bx) : Gl ds L ds L := fun F w vs a h => ⟨F, Ev.refl .., a, h⟩
theorem Gl.trans {d1 d2 d3 : List D} (h : Gl d1 L d2 L1) (h' : Gl d2 L1 d3 L2) : Gl d1 L d3 L2 := fun F w vs a hr => by
  obtain ⟨F1, e1, a1, r1⟩ := h F w vs a hr
  obtain ⟨F2, e2, a2, r2⟩ := h' F1 w vs a1 r1
  exact ⟨F2, e1.trans e2, a2, r2⟩
theorem ASpec.gl (h : ASpec P g args' L' R) (hg : Gl args L args' L') : ASpec P g args L R := fun F w vs a hr => by
  obtain ⟨F1, e1, a1, r1⟩ := hg F w vs a hr
  exact (h F1 w vs a1 r1).mono fun e w' ⟨ae, F', L', h1, h2, h3, h4⟩ => ⟨ae, F', L', e1.trans h1, h2, h3, h4⟩
def AE.ds : AE → List D
  | .ret d => [d]
  | .pan d => [d]
def AE.like : AE → AE → Prop
  | .ret _, .ret _ => True
  | .pan _, .pan _ => True
  | _, _ => False
/-- at the end of a call -/
def Ge (a : AE) (L : List Bx) (a' : AE) (L' : List Bx) : Prop := a.like a' ∧ Gl a.ds L a'.ds L'
theorem Ge.refl (a : AE) (L : List Bx) : Ge a L a L := ⟨by cases a <;> trivial, Gl.refl _ _⟩
theorem Ge.ret {d d' : D} (h : Gl [d] L [d'] L') : Ge (.ret d) L (.ret d') L' := ⟨trivial, h⟩
theorem ASpec.ge (h : ASpec P g args L R) (hg : ∀ a L', R a L' → ∃ a' L'', Ge a L' a' L'' ∧ R' a' L'') : ASpec P g args L R' :=
  fun F w vs a hv => (h F w vs a hv).mono fun e w' ⟨ae, F', L', h1, h2, h3, h4⟩ => by
    obtain ⟨a', L'', ⟨hl, hg⟩, hr⟩ := hg _ _ h4
    cases ae with
    | ret d =>
      cases a' with
      | pan d' => exact hl.elim
      | ret d' =>
        obtain ⟨v, rfl, h3⟩ := h3
        obtain ⟨F2, e2, a2, r2⟩ := hg F' w' [v] h2 (reps_cons h3 reps_nil)
        obtain ⟨v', h5, h6⟩ := r2.one
        injection h5 with h5; subst h5
        exact ⟨.ret d', F2, L'', h1.trans e2, a2, ⟨_, rfl, h6⟩, hr⟩
    | pan d =>
      cases a' with
      | ret d' => exact hl.elim
      | pan d' =>
        obtain ⟨v, rfl, h3⟩ := h3
        obtain ⟨F2, e2, a2, r2⟩ := hg F' w' [v] h2 (reps_cons h3 reps_nil)
        obtain ⟨v', h5, h6⟩ := r2.one
        injection h5 with h5; subst h5
        exact ⟨.pan d', F2, L'', h1.trans e2, a2, ⟨_, rfl, h6⟩, hr⟩
/-- own blocks are let go -/
theorem AW.sub (a : AW F L w) (h : L'.Sublist L) : AW F L' w ∧ Ev F L w F L' w :=
  ⟨⟨fun x hx => a.own x (h.subset hx), a.nodup.sublist (h.map _), fun x hx => a.sep x (h.subset hx), a.lt⟩,
    ⟨rfl, rfl, rfl, Nat.le_refl _, fun _ _ _ => rfl, fun _ h => h, fun _ _ h => .inl h, fun x hx _ => ⟨x, h.subset hx, rfl⟩, Nat.le_refl _⟩⟩
theorem Gl.drop {ds : List D} (h : L'.Sublist L) : Gl ds L ds L' := fun F w vs a hr => ⟨F, (a.sub h).2, (a.sub h).1, hr⟩
mutual
/-- h may be said as r -/
inductive Wk (h r : D) : D → D → Prop
  | refl (d : D) : Wk h r d d
  | hit : Wk h r h r
  | agg {l l' : List D} (t : WkL h r l l') : Wk h r (.agg l) (.agg l')
  | tuple {l l' : List D} (t : WkL h r l l') : Wk h r (.tuple l) (.tuple l')
inductive WkL (h r : D) : List D → List D → Prop
  | nil : WkL h r [] []
  | cons {d d' : D} {l l' : List D} (q : Wk h r d d') (t : WkL h r l l') : WkL h r (d :: l) (d' :: l')
end
theorem WkL.refl (h r : D) : ∀ l, WkL h r l l
  | [] => .nil
  | d :: l => .cons (.refl d) (WkL.refl h r l)
mutual
theorem Wk.ok {h r : D} (hh : ∀ v, Rep F w h v → Rep F' w r v) (k : ∀ d v, Rep F w d v → Rep F' w d v) : ∀ {d d' : D} {v : Value}, Wk h r d d' → Rep F w d v → Rep F' w d' v
  | _, _, _, .refl d, hr => k d _ hr
  | _, _, _, .hit, hr => hh _ hr
  | _, _, _, .agg t, hr => by
    rw [Rep] at hr ⊢
    obtain ⟨vs, rfl, hr⟩ := hr
    exact ⟨vs, rfl, WkL.ok hh k t hr⟩
  | _, _, _, .tuple t, hr => by
    rw [Rep] at hr ⊢
    obtain ⟨vs, rfl, hr⟩ := hr
    exact ⟨vs, rfl, WkL.ok hh k t hr⟩
theorem WkL.ok {h r : D} (hh : ∀ v, Rep F w h v → Rep F' w r v) (k : ∀ d v, Rep F w d v → Rep F' w d v) : ∀ {l l' : List D} {vs : List Value}, WkL h r l l' → Reps F w l vs → Reps F' w l' vs
  | _, _, _, .nil, hr => by rw [Reps] at hr ⊢; exact hr
  | _, _, _, .cons q t, hr => by
    rw [Reps] at hr ⊢
    obtain ⟨v, s, rfl, h1, h2⟩ := hr
    exact ⟨v, s, rfl, Wk.ok hh k q h1, WkL.ok hh k t h2⟩
end
theorem WkL.length {h r : D} : ∀ {l l' : List D}, WkL h r l l' → l.length = l'.length
  | _, _, .nil => rfl
  | _, _, .cons _ t => by simp [WkL.length t]
/-- the same blocks, their contents said so -/
inductive WkB (h r : D) : List Bx → List Bx → Prop
  | nil : WkB h r [] []
  | cons {b : Nat} {l l' : List D} {k : Kd} {L L' : List Bx} (q : WkL h r l l') (t : WkB h r L L') : WkB h r (⟨b, l, k⟩ :: L) (⟨b, l', k⟩ :: L')
theorem WkB.refl (h r : D) : ∀ L, WkB h r L L
  | [] => .nil
  | ⟨b, l, k⟩ :: L => .cons (WkL.refl h r l) (WkB.refl h r L)
theorem WkB.mem {h r : D} : ∀ {L L' : List Bx}, WkB h r L L' → ∀ x ∈ L', ∃ l, (⟨x.b, l, x.k⟩ : Bx) ∈ L ∧ WkL h r l x.l
  | _, _, .nil, x, hx => by cases hx
  | _, _, .cons q t, x, hx => by
    rcases List.mem_cons.1 hx with rfl | hx
    · exact ⟨_, List.mem_cons_self, q⟩
    · obtain ⟨l, h1, h2⟩ := WkB.mem t x hx
      exact ⟨l, List.mem_cons_of_mem _ h1, h2⟩
theorem WkB.bs {h r : D} : ∀ {L L' : List Bx}, WkB h r L L' → L'.map Bx.b = L.map Bx.b
  | _, _, .nil => rfl
  | _, _, .cons _ t => by simp [WkB.bs t]
/-- an own row is given up: from now on it stays as it is -/
theorem Gl.fz {ds ds' : List D} (i : Nat) {b e sz cap n c : Nat} {l : List D} (hi : L[i]? = some (Bx.mk b l (.row e sz cap))) (hl : l.length = n * sz)
    (hd : WkL (.sl b 0 n c) (.row sz (chunk sz n l)) ds ds') (hL : WkB (.sl b 0 n c) (.row sz (chunk sz n l)) (L.eraseIdx i) L') : Gl ds L ds' L' := by
  intro F w vs a hr
  have hm := List.mem_of_getElem? hi
  have hb := a.at hi
  obtain ⟨cc, t, us, b1, b2, b3, rfl, b5, b6, _⟩ := hb.row (fun _ hh => by cases hh)
  simp only at b1 b2 b3
  have a1 := a.perm (perm_erase hi)
  have nd := a1.nodup
  simp only [List.singleton_append, List.map_cons, List.nodup_cons] at nd
  have grow : ∀ d v, Rep F w d v → Rep (fun k => F k ∨ k = b) w d v := fun d v h => Rep.keep ⟨Nat.le_refl _, fun k _ hk => .inl hk, fun _ _ _ => rfl⟩ d v h
  have hlt := hb.lt
  have hus := b2.length
  have hhead : ∀ v, Rep F w (.sl b 0 n c) v → Rep (fun k => F k ∨ k = b) w (.row sz (chunk sz n l)) v := by
    intro v hv
    obtain ⟨rfl, hok⟩ := rep_val_iff.1 hv
    rw [Rep]
    refine ⟨_, c, by rw [chunk_length], ⟨by rw [chunk_length]; exact hok.1, hok.2⟩, .inr ⟨b, 0, rfl, .inr rfl, hlt, ?_⟩⟩
    have hc := cells_of b1 0 l.length
    rw [List.drop_zero, ← b3] at hc
    exact rws_chunk n (Reps.keep ⟨Nat.le_refl _, fun k _ hk => .inl hk, fun _ _ _ => rfl⟩ _ _ b2) hc (by omega)
  have mem : ∀ x ∈ L.eraseIdx i, x ∈ L := fun x hx => List.mem_of_mem_eraseIdx hx
  refine ⟨fun k => F k ∨ k = b, ⟨rfl, rfl, rfl, Nat.le_refl _, fun _ _ _ => rfl, fun _ h => .inl h, ?_, ?_, Nat.le_refl _⟩, ⟨?_, ?_, ?_, ?_⟩, WkL.ok hhead grow hd hr⟩
  · rintro k _ (hk | rfl)
    · exact .inl hk
    · exact .inr ⟨_, hm, rfl⟩
  · intro x hx _
    obtain ⟨l0, h1, _⟩ := hL.mem x hx
    exact ⟨_, mem _ h1, rfl⟩
  · intro x hx
    obtain ⟨l0, h1, h2⟩ := hL.mem x hx
    rcases (a.own _ (mem _ h1)).has with ⟨es, ces, clock, q0, q1, q2, q3, q4⟩ | ⟨c', t', vs', q1, q2, q3, q4⟩
    · simp only at q0 q1 q2
      subst q1
      exact ⟨.inl ⟨es, ces, clock, q0, List.length_eq_zero_iff.1 h2.length.symm, q2, q3.map grow, q4⟩⟩
    · simp only at q1 q2 q3 q4
      exact ⟨.inr ⟨c', t', vs', q1, WkL.ok hhead grow h2 q2, by rw [← h2.length]; exact q3, by rw [← h2.length]; exact q4⟩⟩
  · rw [hL.bs]; exact nd.2
  · rintro x hx (hf | hf)
    · obtain ⟨l0, h1, _⟩ := hL.mem x hx
      exact a.sep _ (mem _ h1) hf
    · obtain ⟨l0, h1, _⟩ := hL.mem x hx
      exact nd.1 (List.mem_map.2 ⟨_, h1, hf⟩)
  · rintro k (hk | rfl)
    · exact a.lt k hk
    · exact hlt
theorem rep_nil_row {sz : Nat} {v : Value} (h : Rep F w .nil v) : Rep F w (.row sz []) v := by
  obtain ⟨rfl, _⟩ := rep_val_iff.1 h
  rw [Rep]
  exact ⟨none, 0, rfl, ⟨Nat.le_refl _, by decide⟩, .inl rfl⟩
/-- nil is a row of nothing -/
theorem Gl.nil {ds ds' : List D} (sz : Nat) (hd : WkL .nil (.row sz []) ds ds') (hL : WkB .nil (.row sz []) L L') : Gl ds L ds' L' := by
  intro F w vs a hr
  have hh : ∀ v, Rep F w .nil v → Rep F w (.row sz []) v := fun v h => rep_nil_row h
  refine ⟨F, ⟨rfl, rfl, rfl, Nat.le_refl _, fun _ _ _ => rfl, fun _ h => h, fun _ _ h => .inl h, ?_, Nat.le_refl _⟩, ⟨?_, ?_, ?_, a.lt⟩, WkL.ok hh (fun _ _ h => h) hd hr⟩
  · intro x hx _
    obtain ⟨l0, h1, _⟩ := hL.mem x hx
    exact ⟨_, h1, rfl⟩
  · intro x hx
    obtain ⟨l0, h1, h2⟩ := hL.mem x hx
    rcases (a.own _ h1).has with ⟨es, ces, clock, q0, q1, q2, q3, q4⟩ | ⟨c', t', vs', q1, q2, q3, q4⟩
    · simp only at q0 q1 q2
      subst q1
      exact ⟨.inl ⟨es, ces, clock, q0, List.length_eq_zero_iff.1 h2.length.symm, q2, q3, q4⟩⟩
    · simp only at q1 q2 q3 q4
      exact ⟨.inr ⟨c', t', vs', q1, WkL.ok hh (fun _ _ h => h) h2 q2, by rw [← h2.length]; exact q3, by rw [← h2.length]; exact q4⟩⟩
  · rw [hL.bs]; exact a.nodup
  · intro x hx hf
    obtain ⟨l0, h1, _⟩ := hL.mem x hx
    exact a.sep _ h1 hf
def D.plain : D → Bool
  | .val _ => true
  | .tuple l => l.all fun d => match d with | .val _ => true | _ => false
  | _ => false
theorem plain_rep {d : D} (h : d.plain = true) {v : Value} (hr : Rep F w d v) : Rep F' w' d v := by
  have key : ∀ (l : List D) (vs : List Value), (l.all fun d => match d with | .val _ => true | _ => false) = true → Reps F w l vs → Reps F' w' l vs := by
    intro l
    induction l with
    | nil => intro vs _ hr; rw [Reps] at hr ⊢; exact hr
    | cons d l ih =>
      intro vs h hr
      rw [List.all_cons, Bool.and_eq_true] at h
      rw [Reps] at hr ⊢
      obtain ⟨v, r, rfl, h1, h2⟩ := hr
      refine ⟨v, r, rfl, ?_, ih r h.2 h2⟩
      have h0 := h.1
      cases d with
      | val u => rw [Rep] at h1 ⊢; exact h1
      | _ => cases h0
  cases d with
  | val u => rw [Rep] at hr ⊢; exact hr
  | tuple l => rw [Rep] at hr ⊢; obtain ⟨vs, rfl, hr⟩ := hr; exact ⟨vs, rfl, key l vs h hr⟩
  | _ => cases h
/-- what only looks at own rows may be told that they stay as they are -/
theorem AFn.lend {d : D} (h : AFn P g args' [] (.ret d)) (hp : d.plain = true) (hg : Gl args L args' []) : AFn P g args L (.ret d) := by
  intro F w vs a hr
  obtain ⟨F1, e1, a1, r1⟩ := hg F w vs a hr
  refine (h F1 w vs a1 r1).mono ?_
  rintro e w' ⟨ae, F2, L2, h1, h2, h3, rfl, rfl⟩
  obtain ⟨v, rfl, hv⟩ := h3
  obtain ⟨a', e'⟩ := a.nx (w' := w') ⟨h1.os, h1.tape, h1.output, h1.size, fun k hk _ => h1.block k hk fun x hx => (by cases hx), h1.drawn⟩
  exact ⟨.ret d, F, L, e', a', ⟨v, rfl, plain_rep hp hv⟩, rfl, rfl⟩

/-! ### calls -/
variable {kp k : D → List Bx → Prop}
def AE.on (kp k : D → List Bx → Prop) : AE → List Bx → Prop
  | .ret d, L => k d L
  | .pan d, L => kp d L
theorem a_callW (h : ASpec P g args L R) (hk : ∀ a L', R a L' → a.on kp k L') : acallW P g args L kp k :=
  ASpec.mono h fun a L' hr => by cases a <;> exact hk _ _ hr
theorem a_call {ae : AE} (h : AFn P g args L ae) (hk : ae.on kp k L) : acallW P g args L kp k :=
  a_callW h fun a L' ⟨h1, h2⟩ => by subst h1; subst h2; exact hk
theorem a_callS {ae : AE} (h : AFn P g args L ae) (hk : ae.on kp k L) : acallS P g args L kp k :=
  ⟨ae, h, by cases ae <;> exact hk⟩
/-- of one that asks for no own blocks -/
theorem a_call0 {d : D} (h : AFn P g args [] (.ret d)) (hk : k d L) : acallW P g args L kp k := a_call h.frame hk
theorem a_callS0 {d : D} (h : AFn P g args [] (.ret d)) (hk : k d L) : acallS P g args L kp k := a_callS h.frame hk
/-- of one that asks for one own block, and may change it -/
theorem a_call1 {x : Bx} (i : Nat) (hi : L[i]? = some x) (h : ASpec P g args [x] fun a L' => ∃ y, L' = [y] ∧ R a [y]) (hk : ∀ a y, R a [y] → a.on kp k (L.set i y)) : acallW P g args L kp k :=
  a_callW (R := fun a L' => ∃ y, L' = L.set i y ∧ R a [y]) ((h.frame (perm_erase hi)).permOut fun a L' ⟨L2, h1, y, h2, h3⟩ => ⟨L.set i y, by rw [h1, h2]; exact perm_set hi, y, rfl, h3⟩)
    fun a L' ⟨y, h1, h2⟩ => by rw [h1]; exact hk a y h2
/-- of one that asks for some own blocks: what it gives stands first -/
theorem a_callF (hp : L.Perm (L1 ++ M)) (h : ASpec P g args L1 R) (hk : ∀ a L', R a L' → a.on kp k (L' ++ M)) : acallW P g args L kp k :=
  a_callW (h.frame hp) fun a L' ⟨L2, h1, h2⟩ => by rw [h1]; exact hk a L2 h2
/-- own blocks that are no longer needed are let go at the end -/
theorem ASpec.sub (h : ASpec P g args L fun a L' => ∃ L2, L2.Sublist L' ∧ R a L2) : ASpec P g args L R :=
  h.ge fun a L' ⟨L2, h1, h2⟩ => ⟨a, L2, ⟨by cases a <;> trivial, Gl.drop h1⟩, h2⟩
/-- a call that ends so, and of whose own blocks L becomes L' -/
def AUp (P : Program) (g : FuncId) (args : List D) (L : List Bx) (a : AE) (L' : List Bx) : Prop := ASpec P g args L fun a' L2 => a' = a ∧ L2 = L'
theorem AUp.of {a : AE} (h : ASpec P g args L fun a' L2 => a' = a ∧ L'.Sublist L2) : AUp P g args L a L' :=
  ASpec.sub (h.mono fun a' L2 ⟨h1, h2⟩ => ⟨L', h2, h1, rfl⟩)
theorem a_callU {x y : Bx} {ae : AE} (i : Nat) (hi : L[i]? = some x) (h : AUp P g args [x] ae [y]) (hk : ae.on kp k (L.set i y)) : acallW P g args L kp k :=
  a_callW (R := fun a L' => a = ae ∧ L' = L.set i y) ((h.frame (perm_erase hi)).permOut fun a L' ⟨L2, h1, h2, h3⟩ => ⟨L.set i y, by rw [h1, h3]; exact perm_set hi, h2, rfl⟩)
    fun a L' ⟨h1, h2⟩ => by rw [h1, h2]; exact hk
/-- those that stand first -/
theorem a_callA {ae : AE} (q : Nat) (hd : L.take q = L1) (h : AUp P g args L1 ae L2) (hk : ae.on kp k (L2 ++ L.drop q)) : acallW P g args L kp k :=
  a_callW (R := fun a L' => a = ae ∧ L' = L2 ++ L.drop q) ((h.frame (L1 := L) (M := L.drop q) (by rw [← hd, List.take_append_drop])).mono fun a L' ⟨L3, h1, h2, h3⟩ => ⟨h2, by rw [h1, h3]⟩)
    fun a L' ⟨h1, h2⟩ => by rw [h1, h2]; exact hk
/-- those that stand last -/
theorem a_callB {ae : AE} (q : Nat) (hd : L.drop q = L1) (h : AUp P g args L1 ae L2) (hk : ae.on kp k (L.take q ++ L2)) : acallW P g args L kp k :=
  a_callW (R := fun a L' => a = ae ∧ L' = L.take q ++ L2) ((h.frame (L1 := L) (M := L.take q) (by
    rw [← hd]
    have := List.perm_append_comm (l₁ := L.take q) (l₂ := L.drop q)
    rwa [List.take_append_drop] at this)).permOut fun a L' ⟨L3, h1, h2, h3⟩ => ⟨L.take q ++ L2, by rw [h1, h3]; exact List.perm_append_comm, h2, rfl⟩)
    fun a L' ⟨h1, h2⟩ => by rw [h1, h2]; exact hk
theorem a_callg (hg : Gl args L args' L') (h : acallW P g args' L' kp k) : acallW P g args L kp k := ASpec.gl h hg
end

def apn (R : AE → List Bx → Prop) (d : D) (L : List Bx) : Prop := R (.pan d) L
/-! ### one step at a time -/
section
variable {L : List Bx} {k : D → Prop} {kl : D → List Bx → Prop}
theorem a_bx {l : List D} (h : ∀ b, kl (.p b 0) (⟨b, l, .box⟩ :: L)) : abx l L kl := h
theorem a_bxv {l : List D} (h : ∀ b, kl (.p b 0) (⟨b, l, .box⟩ :: L)) : abxv (.agg l) L kl := h
theorem a_bxi {ki : IntKind} {n : Int} (h : ∀ b, kl (.p b 0) (⟨b, [.val (.int ki n)], .box⟩ :: L)) : abxv (.val (.int ki n)) L kl := h
theorem a_bxb {c : Bool} (h : ∀ b, kl (.p b 0) (⟨b, [.b c], .box⟩ :: L)) : abxv (.b c) L kl := h
theorem a_bxs {s : ByteArray} (h : ∀ b, kl (.p b 0) (⟨b, [.s s], .box⟩ :: L)) : abxv (.s s) L kl := h
theorem a_bxp {p : Option Addr} (h : ∀ b, kl (.p b 0) (⟨b, [.val (.pointer p)], .box⟩ :: L)) : abxv (.val (.pointer p)) L kl := h
theorem a_bxl {p : Option Addr} {n c : Nat} (h : ∀ b, kl (.p b 0) (⟨b, [.val (.slice p n c)], .box⟩ :: L)) : abxv (.val (.slice p n c)) L kl := h
theorem a_bxr {sz : Nat} {l : List (List D)} (h : ∀ b, kl (.p b 0) (⟨b, [.row sz l], .box⟩ :: L)) : abxv (.row sz l) L kl := h
theorem a_bxn {l : List D} (h : ∀ b, kl (.p b 0) (⟨b, [.pin l], .box⟩ :: L)) : abxv (.pin l) L kl := h
theorem a_bxf {f : Nat} {c d : List D} (h : ∀ b, kl (.p b 0) (⟨b, [.fn f c d], .box⟩ :: L)) : abxv (.fn f c d) L kl := h
theorem a_ld1 (i : Nat) {b o : Nat} {l : List D} {kd : Kd} {d : D} (hi : L[i]? = some (Bx.mk b l kd)) (hd : l[o]? = some d) (h : k d) : ald1 (.p b o) L k := ⟨i, l, kd, d, hi, hd, h⟩
theorem a_ld1p {l r : List D} {d : D} (e : l = d :: r) (h : k d) : ald1 (.pin l) L k := by subst e; exact h
theorem a_ldA (i : Nat) {b n : Nat} {l : List D} {kd : Kd} (hi : L[i]? = some (Bx.mk b l kd)) (hn : l.length = n) (h : k (.agg l)) : aldN n (.p b 0) L k := ⟨i, l, kd, l, hi, by simp [← hn], hn, h⟩
theorem a_ldN (i : Nat) {b o n : Nat} {l : List D} {kd : Kd} (m : List D) (hi : L[i]? = some (Bx.mk b l kd)) (hm : (l.drop o).take n = m) (hn : m.length = n) (h : k (.agg m)) : aldN n (.p b o) L k := ⟨i, l, kd, m, hi, hm, hn, h⟩
theorem a_ldAp {n : Nat} {l : List D} (hn : l.length = n) (h : k (.agg l)) : aldN n (.pin l) L k := ⟨l, by rw [← hn, List.take_length], hn, h⟩
theorem a_ldNp {n : Nat} {l : List D} (m : List D) (hm : l.take n = m) (hn : m.length = n) (h : k (.agg m)) : aldN n (.pin l) L k := ⟨m, hm, hn, h⟩
theorem a_st (i : Nat) {n b o : Nat} {l : List D} {kd : Kd} {v : D} {ks : List Bx → Prop} (m : List D) (hi : L[i]? = some (Bx.mk b l kd)) (hn : (cl v).length = n) (ho : (cl v).all D.one = true) (hle : Nat.ble (o + n) l.length = true) (hm : l.take o ++ cl v ++ l.drop (o + n) = m) (h : ks (L.set i ⟨b, m, kd⟩)) : ast n (.p b o) v L ks :=
  ⟨i, l, kd, m, hi, hn, ho, Nat.le_of_ble_eq_true hle, hm, h⟩
theorem a_nil {a : Addr} (h : k (.val (.pointer (some a)))) : anilc (.val (.pointer (some a))) k := h
theorem a_nilp {l : List D} (h : k (.pin l)) : anilc (.pin l) k := h
theorem a_fld {f b o : Nat} (h : k (.p b (o + f))) : afld f (.p b o) k := h
theorem a_fldp {f : Nat} {l : List D} (h : k (.pin (l.drop f))) : afld f (.pin l) k := h
theorem a_idx {sz : Nat} {l : List (List D)} {ki : IntKind} (i : Nat) (e : List D) (he : l[i]? = some e) (h : k (.pin e)) : aidxS sz (.row sz l) (.val (.int ki i)) k :=
  ⟨rfl, by omega, e, by simpa using he, h⟩
theorem a_idxZ {sz : Nat} {l : List (List D)} {ki : IntKind} {j : Int} (h0 : 0 ≤ j) (e : List D) (he : l[j.toNat]? = some e) (h : k (.pin e)) : aidxS sz (.row sz l) (.val (.int ki j)) k :=
  ⟨rfl, h0, e, he, h⟩
theorem a_idxO {sz b o n c : Nat} {ki : IntKind} {j : Int} (h0 : 0 ≤ j) (h1 : j < n) (h : k (.p b (o + j.toNat * sz))) : aidxS sz (.sl b o n c) (.val (.int ki j)) k := ⟨h0, h1, h⟩
theorem a_idxP {n sz b o : Nat} {ki : IntKind} {j : Int} (h0 : 0 ≤ j) (h1 : j < n) (h : k (.p b (o + j.toNat * sz))) : aidxP n sz (.p b o) (.val (.int ki j)) k := ⟨h0, h1, h⟩
theorem a_idxPp {n sz : Nat} {l : List D} {ki : IntKind} {j : Int} (h0 : 0 ≤ j) (h1 : j < n) (h : k (.pin (l.drop (j.toNat * sz)))) : aidxP n sz (.pin l) (.val (.int ki j)) k := ⟨h0, h1, h⟩
theorem a_bld {z : List D} {ps : List (Nat × Nat × D)} (l : List D) (hs : asizes ps = true) (hl : afill z (aparts ps) = l) (h : k (.agg l)) : abld z ps k := ⟨hs, l, l, hl, .refl _, h⟩
theorem a_bldW {z : List D} {ps : List (Nat × Nat × D)} (l l' : List D) (hs : asizes ps = true) (hl : afill z (aparts ps) = l) (hn : NilW l l') (h : k (.agg l')) : abld z ps k := ⟨hs, l, l', hl, hn, h⟩
theorem a_bldF {sz n : Nat} {z : List D} {ps : List (Nat × Nat × D)} (l : List (List D)) (hs : asizes ps = true) (hl : chunk sz n (afill z (aparts ps)) = l) (h : k (.row sz l)) : abldF sz n z ps k := ⟨hs, l, hl, h⟩
theorem a_bldS {e sz n : Nat} {z : List D} {ps : List (Nat × Nat × D)} (l : List (List D)) (hs : asizes ps = true) (hl : chunk sz n (afill z (aparts ps)) = l) (h : kl (.row sz l) L) : abldS e sz n z ps L kl := .inl ⟨hs, l, hl, h⟩
theorem a_bldO {e sz n : Nat} {z : List D} {ps : List (Nat × Nat × D)} (l : List D) (hs : asizes ps = true) (hl : afill z (aparts ps) = l) (h : ∀ b, kl (.sl b 0 n n) (⟨b, l, .row e sz n⟩ :: L)) : abldS e sz n z ps L kl := .inr ⟨hs, l, hl, h⟩
theorem a_f1 {f : Nat} {l : List D} {d : D} (hd : l[f]? = some d) (h : k d) : afield1 f (.agg l) k := ⟨d, hd, h⟩
theorem a_fN {f n : Nat} {l : List D} (m : List D) (hm : (l.drop f).take n = m) (h : k (.agg m)) : afieldN f n (.agg l) k := ⟨m, hm, h⟩
theorem a_ext {j : Nat} {l : List D} {d : D} (hd : l[j]? = some d) (h : k d) : aext j (.tuple l) k := ⟨d, hd, h⟩
theorem a_lenL {sz : Nat} {l : List (List D)} (h : k (.i l.length)) : alenL (.row sz l) k := h
theorem a_lenO {p : Option Addr} {n c : Nat} (h : k (.i n)) : alenL (.val (.slice p n c)) k := h
theorem a_lenS {s : ByteArray} (h : k (.i s.size)) : alenS (.s s) k := h
theorem a_not {b : Bool} (h : k (.b !b)) : anotb (.b b) k := h
theorem a_wrap {a : IntKind} {n : Int} (r : Int) (e : a.wrap n = r) : a.wrap n = r := e
theorem i64_wrap {n : Int} (h : -9223372036854775808 ≤ n) (h' : n ≤ 9223372036854775807) : IntKind.i64.wrap n = n := by
  simp only [IntKind.wrap]
  first
  | (simp [IntKind.bits, IntKind.signed]; omega)
  | (split <;> omega)
theorem a_add {m n : Int} (h1 : -9223372036854775808 ≤ m + n) (h2 : m + n ≤ 9223372036854775807) (h : k (.i (m + n))) : aar .add (.i m) (.i n) k :=
  by
  show _ ∧ k (.i (IntKind.i64.wrap _))
  exact ⟨rfl, by rw [i64_wrap h1 h2]; exact h⟩
theorem a_sub {m n : Int} (h1 : -9223372036854775808 ≤ m - n) (h2 : m - n ≤ 9223372036854775807) (h : k (.i (m - n))) : aar .sub (.i m) (.i n) k :=
  by
  show _ ∧ k (.i (IntKind.i64.wrap _))
  exact ⟨rfl, by rw [i64_wrap h1 h2]; exact h⟩
theorem a_mul {m n : Int} (h1 : -9223372036854775808 ≤ m * n) (h2 : m * n ≤ 9223372036854775807) (h : k (.i (m * n))) : aar .mul (.i m) (.i n) k :=
  by
  show _ ∧ k (.i (IntKind.i64.wrap _))
  exact ⟨rfl, by rw [i64_wrap h1 h2]; exact h⟩
theorem a_addw {a : IntKind} {m n : Int} (h : k (.val (.int a (a.wrap (m + n))))) : aar .add (.val (.int a m)) (.val (.int a n)) k := by
  show _ ∧ _
  exact ⟨rfl, h⟩
theorem a_subw {a : IntKind} {m n : Int} (h : k (.val (.int a (a.wrap (m - n))))) : aar .sub (.val (.int a m)) (.val (.int a n)) k := by
  show _ ∧ _
  exact ⟨rfl, h⟩
theorem a_mulw {a : IntKind} {m n : Int} (h : k (.val (.int a (a.wrap (m * n))))) : aar .mul (.val (.int a m)) (.val (.int a n)) k := by
  show _ ∧ _
  exact ⟨rfl, h⟩
theorem a_lss {a : IntKind} {m n : Int} (h : k (.b (decide (m < n)))) : aar .lss (.val (.int a m)) (.val (.int a n)) k := by
  show _ ∧ _
  exact ⟨rfl, h⟩
theorem a_leq {a : IntKind} {m n : Int} (h : k (.b (decide (m ≤ n)))) : aar .leq (.val (.int a m)) (.val (.int a n)) k := by
  show _ ∧ _
  exact ⟨rfl, h⟩
theorem a_gtr {a : IntKind} {m n : Int} (h : k (.b (decide (m > n)))) : aar .gtr (.val (.int a m)) (.val (.int a n)) k := by
  show _ ∧ _
  exact ⟨rfl, h⟩
theorem a_geq {a : IntKind} {m n : Int} (h : k (.b (decide (m ≥ n)))) : aar .geq (.val (.int a m)) (.val (.int a n)) k := by
  show _ ∧ _
  exact ⟨rfl, h⟩
theorem a_eql {a : IntKind} {m n : Int} (h : k (.b (decide (m = n)))) : aar .eql (.val (.int a m)) (.val (.int a n)) k := by
  have e : (m == n) = decide (m = n) := by by_cases h : m = n <;> simp [h]
  show _ ∧ k (.b (m == n))
  exact ⟨rfl, by rw [e]; exact h⟩
theorem a_neq {a : IntKind} {m n : Int} (h : k (.b (decide (m ≠ n)))) : aar .neq (.val (.int a m)) (.val (.int a n)) k := by
  have e : (m != n) = decide (m ≠ n) := by by_cases h : m = n <;> simp [h]
  show _ ∧ k (.b (m != n))
  exact ⟨rfl, by rw [e]; exact h⟩
theorem bytes_eq (a b : ByteArray) : (a.toList == b.toList) = decide (a = b) := by
  by_cases h : a = b
  · simp [h]
  · have : a.toList ≠ b.toList := fun hh => h (by
      apply ByteArray.ext; apply Array.ext'
      have h1 : ∀ x : ByteArray, x.toList = x.data.toList := ByteArray.toList_eq
      rw [← h1, ← h1]; exact hh)
    simp [h, this]
theorem a_eqlS {a b : ByteArray} (h : k (.b (decide (a = b)))) : aar .eql (.s a) (.s b) k := by
  show k (.b (a.toList == b.toList)); rw [bytes_eq]; exact h
theorem a_neqS {a b : ByteArray} (h : k (.b (decide (a ≠ b)))) : aar .neq (.s a) (.s b) k := by
  show k (.b !(a.toList == b.toList)); rw [bytes_eq]
  have : (!decide (a = b)) = decide (a ≠ b) := by simp
  rw [this]; exact h
theorem a_eqlB {a b : Bool} (h : k (.b (a == b))) : aarB .eql (.b a) (.b b) k := h
theorem a_neqB {a b : Bool} (h : k (.b (!(a == b)))) : aarB .neq (.b a) (.b b) k := h
theorem a_max {a : IntKind} {m n : Int} (h : k (.val (.int a (max m n)))) : amax2 (.val (.int a m)) (.val (.int a n)) k := by
  have : max m n = if n > m then n else m := by split <;> omega
  rw [this] at h; exact ⟨rfl, h⟩
theorem a_min {a : IntKind} {m n : Int} (h : k (.val (.int a (min m n)))) : amin2 (.val (.int a m)) (.val (.int a n)) k := by
  have : min m n = if n < m then n else m := by split <;> omega
  rw [this] at h; exact ⟨rfl, h⟩
theorem a_pick {c : Bool} {a b : D} (h1 : c = true → k a) (h2 : c = false → k b) : apick (.b c) a b k := by
  cases c
  · exact h2 rfl
  · exact h1 rfl
theorem a_cvI {a c : IntKind} {n : Int} (h : k (.val (.int a (a.wrap n)))) : acvI a (.val (.int c n)) k := h
theorem a_cv64 {n : Int} (h1 : -9223372036854775808 ≤ n) (h2 : n ≤ 9223372036854775807) {c : IntKind} (h : k (.i n)) : acvI .i64 (.val (.int c n)) k := by
  show k (.i (IntKind.i64.wrap n)); rw [i64_wrap h1 h2]; exact h
variable {A B : Prop}
theorem a_cnd {p : Prop} [Decidable p] (h1 : p → A) (h2 : ¬ p → B) : acnd (.b (decide p)) A B := by
  by_cases h : p
  · rw [decide_eq_true h]; exact h1 h
  · rw [decide_eq_false h]; exact h2 h
theorem a_cndb {c : Bool} (h1 : c = true → A) (h2 : c = false → B) : acnd (.b c) A B := by
  cases c
  · exact h2 rfl
  · exact h1 rfl
section
variable (x0 x1 x2 x3 x4 x5 x6 x7 x8 : D) (r : List D)
theorem aix0 : aix (x0 :: r) 0 = x0 := rfl
theorem aix1 : aix (x0 :: x1 :: r) 1 = x1 := rfl
theorem aix2 : aix (x0 :: x1 :: x2 :: r) 2 = x2 := rfl
theorem aix3 : aix (x0 :: x1 :: x2 :: x3 :: r) 3 = x3 := rfl
theorem aix4 : aix (x0 :: x1 :: x2 :: x3 :: x4 :: r) 4 = x4 := rfl
theorem aix5 : aix (x0 :: x1 :: x2 :: x3 :: x4 :: x5 :: r) 5 = x5 := rfl
theorem aix6 : aix (x0 :: x1 :: x2 :: x3 :: x4 :: x5 :: x6 :: r) 6 = x6 := rfl
theorem aix7 : aix (x0 :: x1 :: x2 :: x3 :: x4 :: x5 :: x6 :: x7 :: r) 7 = x7 := rfl
theorem aix8 : aix (x0 :: x1 :: x2 :: x3 :: x4 :: x5 :: x6 :: x7 :: x8 :: r) 8 = x8 := rfl
end
/-- ways that meet again, by what they leave -/
theorem a_jn {σ : Type} {F : List D → List Bx → Prop} {G} (vs : σ → List D) (Ls : σ → List Bx) (I : σ → Prop) (h : ∀ x, I x → F (vs x) (Ls x)) (hG : ∀ J : List D → List Bx → Prop, (∀ x v l, I x → Gl v l (vs x) (Ls x) → J v l) → G J) : ajn F G :=
  ⟨fun v l => ∃ x, v = vs x ∧ l = Ls x ∧ I x, fun v l ⟨x, h1, h2, h3⟩ => by rw [h1, h2]; exact h x h3, hG _ fun x v l hx hg => ⟨_, _, hg, x, rfl, rfl, hx⟩⟩
/-- a loop, by what its turn is of -/
theorem a_lp {σ : Type} {init : List D} {F} (vs : σ → List D) (Ls : σ → List Bx) (I : σ → Prop) (μ : σ → Nat) (x0 : σ) (e : Gl init L (vs x0) (Ls x0)) (h0 : I x0)
    (h : ∀ x K, I x → (∀ y v l, I y → μ y < μ x → Gl v l (vs y) (Ls y) → K v l) → F (vs x) (Ls x) K) : alp init L F := by
  classical
  have hex : ∀ l m, (∃ x, l = vs x ∧ m = Ls x ∧ I x) → ∃ q, (∃ x, l = vs x ∧ m = Ls x ∧ I x ∧ μ x = q) ∧ ∀ k, (∃ x, l = vs x ∧ m = Ls x ∧ I x ∧ μ x = k) → q ≤ k :=
    fun l m ⟨x, h1, h2, h3⟩ => least (p := fun q => ∃ x, l = vs x ∧ m = Ls x ∧ I x ∧ μ x = q) (μ x) ⟨x, h1, h2, h3, rfl⟩
  refine ⟨fun l m => ∃ x, l = vs x ∧ m = Ls x ∧ I x, fun l m => if hh : ∃ x, l = vs x ∧ m = Ls x ∧ I x then (hex l m hh).choose else 0, ⟨_, _, e, x0, rfl, rfl, h0⟩, ?_⟩
  intro l m hl
  obtain ⟨⟨x, hx, hm, hI, hμ⟩, hmin⟩ := (hex l m hl).choose_spec
  subst hx
  subst hm
  refine h x _ hI ?_
  intro y v l hy hlt hg
  refine ⟨_, _, hg, ⟨y, rfl, rfl, hy⟩, ?_⟩
  have h2 : ∃ z, vs y = vs z ∧ Ls y = Ls z ∧ I z := ⟨y, rfl, rfl, hy⟩
  simp only [dif_pos h2, dif_pos hl]
  have h3 := (hex _ _ h2).choose_spec.2 (μ y) ⟨y, rfl, rfl, hy, rfl⟩
  omega
theorem a_lp2 {σ τ : Type} {init : List D} {F} (vs : σ → τ → List D) (Ls : σ → τ → List Bx) (I : σ → τ → Prop) (μ : σ → τ → Nat) (x0 : σ) (y0 : τ) (e : Gl init L (vs x0 y0) (Ls x0 y0)) (h0 : I x0 y0)
    (h : ∀ x y K, I x y → (∀ x' y' v l, I x' y' → μ x' y' < μ x y → Gl v l (vs x' y') (Ls x' y') → K v l) → F (vs x y) (Ls x y) K) : alp init L F :=
  a_lp (σ := σ × τ) (fun z => vs z.1 z.2) (fun z => Ls z.1 z.2) (fun z => I z.1 z.2) (fun z => μ z.1 z.2) (x0, y0) e h0 fun z K hI hK => h z.1 z.2 K hI fun x' y' => hK (x', y')
theorem a_lp3 {σ τ ρ : Type} {init : List D} {F} (vs : σ → τ → ρ → List D) (Ls : σ → τ → ρ → List Bx) (I : σ → τ → ρ → Prop) (μ : σ → τ → ρ → Nat) (x0 : σ) (y0 : τ) (z0 : ρ) (e : Gl init L (vs x0 y0 z0) (Ls x0 y0 z0)) (h0 : I x0 y0 z0)
    (h : ∀ x y z K, I x y z → (∀ x' y' z' v l, I x' y' z' → μ x' y' z' < μ x y z → Gl v l (vs x' y' z') (Ls x' y' z') → K v l) → F (vs x y z) (Ls x y z) K) : alp init L F :=
  a_lp2 (τ := τ × ρ) (fun x z => vs x z.1 z.2) (fun x z => Ls x z.1 z.2) (fun x z => I x z.1 z.2) (fun x z => μ x z.1 z.2) x0 (y0, z0) e h0 fun x z K hI hK => h x z.1 z.2 K hI fun x' y' z' => hK x' (y', z')
theorem a_cfW {P : Program} {g : Nat} {f c args : List D} {kp : D → List Bx → Prop} (h : acallW P g (f ++ args ++ c) L kp kl) : acallF P false (.fn g f c) args L kp kl := h
theorem a_cfS {P : Program} {g : Nat} {f c args : List D} {kp : D → List Bx → Prop} (h : acallS P g (f ++ args ++ c) L kp kl) : acallF P true (.fn g f c) args L kp kl := h
/-- one more at a row's end -/
theorem a_app0 {e sz bytes : Nat} {x : D} (m : Nat) (ys : List D) (hs : asrc sz x L m ys) (ho : ys.all D.one = true) (hb : m * bytes ≤ 140737488355328) (hm : m ≠ 0) (h : ∀ b c, kl (.sl b 0 m c) (⟨b, ys, .row e sz c⟩ :: L)) : aapp e sz bytes .nil x L kl :=
  ⟨m, ys, hs, ho, hb, by rw [Bool.cond_eq_ite, if_neg (by rw [Nat.beq_eq]; exact hm)]; exact h⟩
theorem a_app {e sz bytes b n c : Nat} {x : D} (i : Nat) (l : List D) (m : Nat) (ys : List D) (hi : L[i]? = some (Bx.mk b l (.row e sz c))) (hl : l.length = n * sz) (hs : asrc sz x L m ys) (ho : ys.all D.one = true) (hb : (n + m) * bytes ≤ 140737488355328)
    (h : ∀ b' c', kl (.sl b' 0 (n + m) c') (L.set i ⟨b', l ++ ys, .row e sz c'⟩)) : aapp e sz bytes (.sl b 0 n c) x L kl :=
  ⟨m, ys, hs, ho, hb, i, l, hi, hl, h⟩
theorem a_mkS {e sz bytes : Nat} {z : List D} {ki kj : IntKind} {n m : Int} (n' m' : Nat) (e1 : n = n') (e2 : m = m') (h1 : n' ≤ m') (h2 : m' * bytes ≤ 140737488355328) (h3 : m' ≤ 140737488355328)
    (h : ∀ b, kl (.sl b 0 n' m') (⟨b, (List.replicate n' z).flatten, .row e sz m'⟩ :: L)) : amkS e sz bytes z (.val (.int ki n)) (.val (.int kj m)) L kl :=
  ⟨ki, kj, n', m', by rw [e1], by rw [e2], h1, h2, h3, h⟩
end
end Go.V
