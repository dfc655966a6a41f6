/- Regions that draw their order: an order in which all that changes own blocks has its place is as good as any. -/
import Derived.Test.YtdalobojhfafbaaGreatDoorA5
set_option linter.unusedVariables false
namespace Go.V
open Go
section
variable {P : Program} {o : Oper}
def One (X : (Value → Prop) → Prop) : Prop := ∀ k, X k → ∃ v, k v ∧ ∀ k', k' v → X k'
theorem one_idxS (z : Nat) (x i : Value) : One (idxS z x i) := fun k h => by
  unfold idxS at h; split at h
  · exact ⟨_, h.2.2, fun k' hk => ⟨h.1, h.2.1, hk⟩⟩
  · exact h.elim
theorem one_idxP (n z : Nat) (x i : Value) : One (idxP n z x i) := fun k h => by
  unfold idxP at h; split at h
  · exact ⟨_, h.2.2, fun k' hk => ⟨h.1, h.2.1, hk⟩⟩
  · exact h.elim
theorem one_idxStr (x i : Value) : One (idxStr x i) := fun k h => by
  unfold idxStr at h; split at h
  · obtain ⟨h1, c, h2, h3⟩ := h; exact ⟨_, h3, fun k' hk => ⟨h1, c, h2, hk⟩⟩
  · exact h.elim
theorem one_ar (q : BinOp) (x y : Value) : One (ar q x y) := fun k h => by
  unfold ar at h; split at h
  · cases q <;> simp only at h <;> first
      | exact ⟨_, h.2.2, fun k' hk => ⟨h.1, h.2.1, hk⟩⟩
      | exact ⟨_, h.2, fun k' hk => ⟨h.1, hk⟩⟩
  · cases q <;> simp only at h <;> first
      | exact h.elim
      | exact ⟨_, h, fun k' hk => hk⟩
      | exact ⟨_, h.2, fun k' hk => ⟨h.1, hk⟩⟩
  · exact h.elim
theorem one_arF (q : BinOp) (x y : Value) : One (arF q x y) := fun k h => by
  unfold arF at h; split at h
  · obtain ⟨rfl, h⟩ := h
    cases q <;> simp only at h <;> first
      | exact h.elim
      | exact ⟨_, h, fun k' hk => ⟨rfl, hk⟩⟩
      | (obtain ⟨r, h1, h2⟩ := h; exact ⟨_, h2, fun k' hk => ⟨rfl, r, h1, hk⟩⟩)
  · exact h.elim
theorem one_eqP (q : BinOp) (x y : Value) : One (eqP q x y) := fun k h => by
  unfold eqP at h; split at h
  · cases q <;> simp only at h <;> first
      | exact h.elim
      | exact ⟨_, h, fun k' hk => hk⟩
  · exact h.elim
theorem one_arB (q : BinOp) (x y : Value) : One (arB q x y) := fun k h => by
  unfold arB at h; split at h
  · cases q <;> simp only at h <;> first
      | exact h.elim
      | exact ⟨_, h, fun k' hk => hk⟩
  · exact h.elim
theorem one_eqS (q : BinOp) (x y : Value) : One (eqS q x y) := fun k h => by
  unfold eqS at h; split at h
  · cases q <;> simp only at h <;> first
      | exact h.elim
      | exact ⟨_, h, fun k' hk => hk⟩
  · exact h.elim
theorem one_eqI (q : BinOp) (x y : Value) : One (eqI q x y) := fun k h => by
  unfold eqI at h; split at h
  · cases q <;> simp only at h <;> first
      | exact h.elim
      | exact ⟨_, h, fun k' hk => hk⟩
  · cases q <;> simp only at h <;> first
      | exact h.elim
      | exact ⟨_, h, fun k' hk => hk⟩
  · exact h.elim
theorem one_notb (x : Value) : One (notb x) := fun k h => by
  unfold notb at h; split at h
  · exact ⟨_, h, fun k' hk => hk⟩
  · exact h.elim
theorem one_neg (x : Value) : One (neg x) := fun k h => by
  unfold neg at h; split at h
  · exact ⟨_, h, fun k' hk => hk⟩
  · exact h.elim
theorem one_cvI (a : IntKind) (x : Value) : One (cvI a x) := fun k h => by
  unfold cvI at h; split at h
  · exact ⟨_, h, fun k' hk => hk⟩
  · exact h.elim
theorem one_lenS (x : Value) : One (lenS x) := fun k h => by
  unfold lenS at h; split at h
  · exact ⟨_, h, fun k' hk => hk⟩
  · exact h.elim
theorem one_lenL (x : Value) : One (lenL x) := fun k h => by
  unfold lenL at h; split at h
  · exact ⟨_, h, fun k' hk => hk⟩
  · exact h.elim
theorem one_max2 (x y : Value) : One (max2 x y) := fun k h => by
  unfold max2 at h; split at h
  · obtain ⟨rfl, h⟩ := h
    exact ⟨_, h, fun k' hk => ⟨rfl, hk⟩⟩
  · exact h.elim
theorem one_min2 (x y : Value) : One (min2 x y) := fun k h => by
  unfold min2 at h; split at h
  · obtain ⟨rfl, h⟩ := h
    exact ⟨_, h, fun k' hk => ⟨rfl, hk⟩⟩
  · exact h.elim
theorem one_slcL (z : Nat) (x : Value) (lo hi : Option Value) : One (slcL z x lo hi) := fun k h => by
  unfold slcL at h; split at h
  · obtain ⟨l, q, h1, h2, h3, h4⟩ := h; exact ⟨_, h4, fun k' hk => ⟨l, q, h1, h2, h3, hk⟩⟩
  · exact h.elim
theorem one_slcM (z : Nat) (x : Value) (lo hi mx : Option Value) : One (slcM z x lo hi mx) := fun k h => by
  unfold slcM at h; split at h
  · obtain ⟨l, q, m, h1, h2, h3, h4, h5, h6⟩ := h; exact ⟨_, h6, fun k' hk => ⟨l, q, m, h1, h2, h3, h4, h5, hk⟩⟩
  · exact h.elim
theorem one_slcS (x : Value) (lo hi : Option Value) : One (slcS x lo hi) := fun k h => by
  unfold slcS at h; split at h
  · obtain ⟨l, q, h1, h2, h3, h4⟩ := h; exact ⟨_, h4, fun k' hk => ⟨l, q, h1, h2, h3, hk⟩⟩
  · exact h.elim

def AOne (X : (D → Prop) → Prop) : Prop := ∀ k, X k → ∃ d, k d ∧ ∀ k', k' d → X k'
theorem aone_u1 {X : Value → (Value → Prop) → Prop} (h1 : ∀ v, One (X v)) (x : D) : AOne (u1 X x) := fun k h => by
  unfold u1 at h ⊢
  split at h
  · obtain ⟨v, h2, h3⟩ := h1 _ _ h
    exact ⟨.val v, h2, fun k' hk => h3 _ hk⟩
  · exact h.elim
theorem aone_u2 {X : Value → Value → (Value → Prop) → Prop} (h1 : ∀ v u, One (X v u)) (x y : D) : AOne (u2 X x y) := fun k h => by
  unfold u2 at h ⊢
  split at h
  · obtain ⟨v, h2, h3⟩ := h1 _ _ _ h
    exact ⟨.val v, h2, fun k' hk => h3 _ hk⟩
  · exact h.elim
theorem aone_max3 (x y z : D) : AOne (amax3 x y z) := fun k h => by
  unfold amax3 at h ⊢
  split at h
  · unfold max3 at h ⊢
    split at h
    · obtain ⟨rfl, rfl, h⟩ := h
      exact ⟨_, h, fun k' hk => ⟨rfl, rfl, hk⟩⟩
    · exact h.elim
  · exact h.elim
theorem aone_pick (c a b : D) : AOne (apick c a b) := fun k h => by
  unfold apick at h ⊢
  split at h
  · exact ⟨_, h, fun k' hk => hk⟩
  · exact h.elim
theorem aone_ldN (n : Nat) (p : D) (L : List Bx) : AOne (aldN n p L) := fun k h => by
  unfold aldN at h ⊢
  split at h
  · obtain ⟨i, l, kd, m, h1, h2, h3, h4⟩ := h
    exact ⟨_, h4, fun k' hk => ⟨i, l, kd, m, h1, h2, h3, hk⟩⟩
  · obtain ⟨m, h2, h3, h4⟩ := h
    exact ⟨_, h4, fun k' hk => ⟨m, h2, h3, hk⟩⟩
  · exact h.elim
theorem aone_ld1 (p : D) (L : List Bx) : AOne (ald1 p L) := fun k h => by
  unfold ald1 at h ⊢
  split at h
  · obtain ⟨i, l, kd, m, h1, h2, h4⟩ := h
    exact ⟨_, h4, fun k' hk => ⟨i, l, kd, m, h1, h2, hk⟩⟩
  · exact ⟨_, h, fun k' hk => hk⟩
  · exact h.elim
theorem aone_nilc (p : D) : AOne (anilc p) := fun k h => by
  unfold anilc at h ⊢
  split at h
  · exact ⟨_, h, fun k' hk => hk⟩
  · exact ⟨_, h, fun k' hk => hk⟩
  · exact h.elim
theorem aone_fld (f : Nat) (p : D) : AOne (afld f p) := fun k h => by
  unfold afld at h ⊢
  split at h
  · exact ⟨_, h, fun k' hk => hk⟩
  · exact ⟨_, h, fun k' hk => hk⟩
  · exact h.elim
theorem aone_idxS (sz : Nat) (x i : D) : AOne (aidxS sz x i) := fun k h => by
  unfold aidxS at h ⊢
  split at h
  · obtain ⟨h1, h2, e, h3, h4⟩ := h
    exact ⟨_, h4, fun k' hk => ⟨h1, h2, e, h3, hk⟩⟩
  · obtain ⟨v, h2, h3⟩ := one_idxS sz _ _ _ h
    exact ⟨.val v, h2, fun k' hk => h3 _ hk⟩
  · exact h.elim
theorem aone_idxP (n sz : Nat) (x i : D) : AOne (aidxP n sz x i) := fun k h => by
  unfold aidxP at h ⊢
  split at h
  · exact ⟨_, h.2.2, fun k' hk => ⟨h.1, h.2.1, hk⟩⟩
  · obtain ⟨v, h2, h3⟩ := one_idxP n sz _ _ _ h
    exact ⟨.val v, h2, fun k' hk => h3 _ hk⟩
  · exact h.elim
theorem aone_bld (z : List D) (ps : List (Nat × Nat × D)) : AOne (abld z ps) := fun k h => by
  obtain ⟨h1, l, l', h2, hn, h3⟩ := h
  exact ⟨_, h3, fun k' hk => ⟨h1, l, l', h2, hn, hk⟩⟩
theorem aone_bldF (sz n : Nat) (z : List D) (ps : List (Nat × Nat × D)) : AOne (abldF sz n z ps) := fun k h => by
  obtain ⟨h1, l, h2, h3⟩ := h
  exact ⟨_, h3, fun k' hk => ⟨h1, l, h2, hk⟩⟩
theorem aone_field1 (f : Nat) (x : D) : AOne (afield1 f x) := fun k h => by
  unfold afield1 at h ⊢
  split at h
  · obtain ⟨d, h1, h2⟩ := h
    exact ⟨_, h2, fun k' hk => ⟨d, h1, hk⟩⟩
  · exact h.elim
theorem aone_fieldN (f n : Nat) (x : D) : AOne (afieldN f n x) := fun k h => by
  unfold afieldN at h ⊢
  split at h
  · obtain ⟨d, h1, h2⟩ := h
    exact ⟨_, h2, fun k' hk => ⟨d, h1, hk⟩⟩
  · exact h.elim
theorem aone_ext (j : Nat) (x : D) : AOne (aext j x) := fun k h => by
  unfold aext at h ⊢
  split at h
  · obtain ⟨d, h1, h2⟩ := h
    exact ⟨_, h2, fun k' hk => ⟨d, h1, hk⟩⟩
  · exact h.elim
theorem aone_eqS (q : BinOp) (x y : D) : AOne (aeqS true q x y) := fun k h => by
  unfold aeqS at h ⊢
  split at h
  · cases q <;> simp only at h ⊢ <;> first
      | exact h.elim
      | exact ⟨_, h, fun k' hk => hk⟩
  · exact h.elim
  · obtain ⟨v, h2, h3⟩ := one_eqS q _ _ _ h
    exact ⟨.val v, h2, fun k' hk => h3 _ hk⟩
  · exact h.elim
theorem aone_eqI (q : BinOp) (x y : D) : AOne (aeqI q x y) := fun k h => by
  unfold aeqI at h ⊢
  split at h
  · cases q <;> simp only at h ⊢ <;> first
      | exact h.elim
      | exact ⟨_, h, fun k' hk => hk⟩
  · obtain ⟨v, h2, h3⟩ := one_eqI q _ _ _ h
    exact ⟨.val v, h2, fun k' hk => h3 _ hk⟩
  · exact h.elim
theorem aone_lenL (x : D) : AOne (alenL x) := fun k h => by
  unfold alenL at h ⊢
  split at h
  · exact ⟨_, h, fun k' hk => hk⟩
  · obtain ⟨v, h2, h3⟩ := one_lenL _ _ h
    exact ⟨.val v, h2, fun k' hk => h3 _ hk⟩
  · exact h.elim
theorem aone_slcS (x : D) (lo hi : Option D) : AOne (aslcS x lo hi) := fun k h => by
  unfold aslcS at h ⊢
  split at h
  · cases hl : aval lo with
    | none => simp only [hl] at h
    | some l =>
      cases hh : aval hi with
      | none => simp only [hl, hh] at h
      | some q =>
        simp only [hl, hh] at h
        obtain ⟨v, h2, h3⟩ := one_slcS _ _ _ _ h
        refine ⟨.val v, h2, fun k' hk => ?_⟩
        simp only
        exact h3 _ hk
  · exact h.elim
theorem aone_slcL (sz : Nat) (x : D) (lo hi : Option D) : AOne (aslcL sz x lo hi) := fun k h => by
  unfold aslcL at h ⊢
  split at h
  · obtain ⟨h1, a, b, h2, h3, h4, h5, m, h6, h7⟩ := h
    exact ⟨_, h7, fun k' hk => ⟨h1, a, b, h2, h3, h4, h5, m, h6, hk⟩⟩
  · cases hl : aval lo with
    | none => simp only [hl] at h
    | some l =>
      cases hh : aval hi with
      | none => simp only [hl, hh] at h
      | some q =>
        simp only [hl, hh] at h
        obtain ⟨v, h2, h3⟩ := one_slcL _ _ _ _ _ h
        refine ⟨.val v, h2, fun k' hk => ?_⟩
        simp only
        exact h3 _ hk
  · exact h.elim
theorem aone_slcM (sz : Nat) (x : D) (lo hi mx : Option D) : AOne (aslcM sz x lo hi mx) := fun k h => by
  unfold aslcM at h ⊢
  split at h
  · cases hl : aval lo with
    | none => simp only [hl] at h
    | some l =>
      cases hh : aval hi with
      | none => simp only [hl, hh] at h
      | some q =>
        cases hm : aval mx with
        | none => simp only [hl, hh, hm] at h
        | some m =>
          simp only [hl, hh, hm] at h
          obtain ⟨v, h2, h3⟩ := one_slcM _ _ _ _ _ _ h
          refine ⟨.val v, h2, fun k' hk => ?_⟩
          simp only
          exact h3 _ hk
  · exact h.elim
theorem aone_zTb {t : TypeId} {B : List Value → Bool} {X : List Value → (D → Prop) → Prop} (h : ∀ z, AOne (X z)) : AOne (fun k => zT P t fun z => bif B z then X z k else False) := fun k hk => by
  obtain ⟨i, z, hi, hz, hk⟩ := zT_spec hk
  rw [Bool.cond_eq_ite] at hk
  split at hk
  · rename_i hb
    obtain ⟨v, h1, h2⟩ := h _ k hk
    refine ⟨v, h1, fun k' hk' => ?_⟩
    simp only [zT, hi, hz, hb, cond_true]
    exact h2 k' hk'
  · exact hk.elim
theorem aone_false : AOne (fun _ => False) := fun _ h => h.elim
theorem aone_bif {b : Bool} {X : (D → Prop) → Prop} (h : AOne X) : AOne (fun k => bif b then X k else False) := by
  cases b
  · exact aone_false
  · exact h
theorem aone_bif2 {b : Bool} {X Y : (D → Prop) → Prop} (h : AOne X) (h' : AOne Y) : AOne (fun k => bif b then X k else Y k) := by
  cases b
  · exact h'
  · exact h

def GoA (P : Program) (o : Oper) (ρ : Operand → D) (L : List Bx) (k kp : D → List Bx → Prop) : Prop :=
  ∀ F w (ρc : Operand → Value), AW F L w → (∀ x ∈ o.op.operands.toList, Rep F w (ρ x) (ρc x)) →
    Out P w (fun v w' => ∃ d F' L', k d L' ∧ Ev F L w F' L' w' ∧ AW F' L' w' ∧ Rep F' w' d v) (fun c w' => ∃ d F' L' v, kp d L' ∧ c = [{ v := v, recovered := false }] ∧ Ev F L w F' L' w' ∧ AW F' L' w' ∧ Rep F' w' d v) ((execOp ρc o).run P w)
def SR (ae : AE) (L : List Bx) (d : D) (L' : List Bx) : Prop := ae = .ret d ∧ L' = L
def SP (ae : AE) (L : List Bx) (d : D) (L' : List Bx) : Prop := ae = .pan d ∧ L' = L
def StillA (P : Program) (o : Oper) (ρ : Operand → D) (L : List Bx) (ae : AE) : Prop := GoA P o ρ L (SR ae L) (SP ae L)
theorem Out.mono {w : World} {k k' : Value → World → Prop} {kp kp' : List PanicEntry → World → Prop} {r : Result Next} (h : Out P w k kp r) (hk : ∀ v w', k v w' → k' v w') (hp : ∀ c w', kp c w' → kp' c w') : Out P w k' kp' r :=
  match h with
  | .value v w' h => .value v w' (hk _ _ h)
  | .skip w' h => .skip w' (hk _ _ h)
  | .enter g args h => .enter g args (h.mono fun e w' hh => match e, hh with
    | .returned v, hh => hk _ _ hh
    | .panicked c, hh => hp _ _ hh)
  | .panic v w' h => .panic v w' (hp _ _ h)
theorem GoA.mono {ρ : Operand → D} {L : List Bx} {k k' kp kp' : D → List Bx → Prop} (h : GoA P o ρ L k kp) (hk : ∀ d L', k d L' → k' d L') (hp : ∀ d L', kp d L' → kp' d L') : GoA P o ρ L k' kp' :=
  fun F w ρc aw hr => (h F w ρc aw hr).mono (fun v w' ⟨d, F', L', h1, h2⟩ => ⟨d, F', L', hk _ _ h1, h2⟩) (fun c w' ⟨d, F', L', v, h1, h2⟩ => ⟨d, F', L', v, hp _ _ h1, h2⟩)
theorem GoA.congr {ρ ρ' : Operand → D} {L : List Bx} {k kp : D → List Bx → Prop} (h : GoA P o ρ L k kp) (he : ∀ x ∈ o.op.operands.toList, ρ x = ρ' x) : GoA P o ρ' L k kp :=
  fun F w ρc aw hr => h F w ρc aw fun x hx => by rw [he x hx]; exact hr x hx
theorem goA_of {s : Bool} {ρ : Operand → D} {L : List Bx} {k kp : D → List Bx → Prop} (h : aopK P s o.type o.op ρ L k kp) : GoA P o ρ L k kp :=
  fun F w ρc aw hr => opK_sound (aopK_sound h aw hr (fun d L' v w' F' h1 h2 h3 h4 => ⟨d, F', L', h1, h2, h3, h4⟩) (fun d L' v w' F' h1 h2 h3 h4 => ⟨d, F', L', v, h1, rfl, h2, h3, h4⟩))
theorem aone_eqP (q : BinOp) (x y : D) : AOne (aeqP q x y) := fun k h => by
  unfold aeqP at h; split at h
  · cases q <;> simp only at h <;> first
      | exact h.elim
      | exact ⟨_, h, fun k' hk => hk⟩
  · obtain ⟨v, h1, h2⟩ := one_eqP q _ _ _ h
    exact ⟨.val v, h1, fun k' hk => h2 (fun r => k' (.val r)) hk⟩
  · exact h.elim
theorem aone_tas (t : TypeId) (z x : D) (ok : Bool) : AOne (atas t z x ok) := fun k h => by
  unfold atas at h; split at h
  · rw [Bool.cond_eq_ite] at h
    split at h
    · rename_i he
      exact ⟨_, h, fun k' hk => by show (bif Nat.beq _ t then k' _ else (bif ok then k' _ else False)); rw [Bool.cond_eq_ite, if_pos he]; exact hk⟩
    · rename_i he
      cases ok
      · exact h.elim
      · exact ⟨_, h, fun k' hk => by show (bif Nat.beq _ t then k' _ else (bif true then k' _ else False)); rw [Bool.cond_eq_ite, if_neg he]; exact hk⟩
  · cases ok
    · exact h.elim
    · exact ⟨_, h, fun k' hk => hk⟩
  · exact h.elim
theorem aone_cvB (x : D) : AOne (acvB x) := fun k h => by
  unfold acvB at h; split at h
  · obtain ⟨ns, h1, h2, h⟩ := h
    exact ⟨_, h, fun k' hk => ⟨ns, h1, h2, hk⟩⟩
  · exact h.elim
theorem aone_bifF {b : Bool} {X : (D → Prop) → Prop} (h : AOne X) : AOne (fun k => bif b then X k else False) := fun k hk => by
  cases b
  · exact hk.elim
  · exact h k hk
theorem aone_lkM (kt : TypeId) (ok : Bool) (z x i : D) (L : List Bx) : AOne (alkM P kt ok z x i L) := fun k h => by
  unfold alkM at h; split at h
  · obtain ⟨j, es, K, key, hj, mk, hK, hkey, hkk, ⟨d, hd, h⟩ | ⟨hno, h⟩⟩ := h
    · exact ⟨_, h, fun k' hk => ⟨j, es, K, key, hj, mk, hK, hkey, hkk, .inl ⟨d, hd, hk⟩⟩⟩
    · exact ⟨_, h, fun k' hk => ⟨j, es, K, key, hj, mk, hK, hkey, hkk, .inr ⟨hno, hk⟩⟩⟩
  · obtain ⟨K, key, h1, h2, h3, h⟩ := h
    exact ⟨_, h, fun k' hk => ⟨K, key, h1, h2, h3, hk⟩⟩
  · exact h.elim
theorem aone_zVb {t : TypeId} {B : Value → Bool} {X : Value → (D → Prop) → Prop} (h : ∀ z, AOne (X z)) : AOne (fun k => zV P t fun z => bif B z then X z k else False) := fun k hk => by
  unfold zV at hk
  split at hk
  · rename_i i hi
    split at hk
    · rename_i z hz
      rw [Bool.cond_eq_ite] at hk
      split at hk
      · rename_i hb
        obtain ⟨d, h1, h2⟩ := h z _ hk
        refine ⟨d, h1, fun k' hk' => ?_⟩
        simp only [zV, hi, hz, hb, cond_true]
        exact h2 _ hk'
      · exact hk.elim
    · exact hk.elim
  · exact hk.elim
theorem aone {ty : TypeId} {op : Op} {ρ : Operand → D} {L : List Bx} {k kp : D → List Bx → Prop} (h : aopK P true ty op ρ L k kp) :
    ∃ ae : AE, aopK P true ty op ρ L (SR ae L) (SP ae L) ∧ (match ae with | .ret d => k d L | .pan d => kp d L) := by
  have pu : ∀ {X : (D → Prop) → Prop}, AOne X → X (fun d => k d L) → ∃ ae : AE, X (fun d => SR ae L d L) ∧ (match ae with | .ret d => k d L | .pan d => kp d L) := fun {X} h1 h2 => by
    obtain ⟨d, h3, h4⟩ := h1 _ h2
    exact ⟨.ret d, h4 _ ⟨rfl, rfl⟩, h3⟩
  cases op with
  | move x => exact ⟨.ret (ρ x), ⟨rfl, rfl⟩, h⟩
  | assign x => exact ⟨.ret (ρ x), ⟨rfl, rfl⟩, h⟩
  | pick c x y => exact pu (aone_pick _ _ _) h
  | build t ps =>
    simp only [aopK] at h ⊢
    cases hu : P.underlying t with
    | none => simp only [hu] at h
    | some d =>
      cases d <;> simp only [hu] at h ⊢ <;> first
        | exact h.elim
        | exact pu (aone_zTb (X := fun z => abld (vals z) (apartsT P t ρ ps.toList)) fun z => aone_bld _ _) h
  | buildSlice t n ps =>
    simp only [aopK, cond_true] at h ⊢
    cases hu : P.underlying t with
    | none => simp only [hu] at h
    | some d =>
      cases d <;> simp only [hu] at h ⊢ <;> try exact h.elim
      rename_i e
      exact pu (aone_zTb (X := fun z => abldF (sizeT P e) n (vals (reps n z)) (apartsT P t ρ ps.toList)) fun z => aone_bldF _ _ _ _) h
  | load t x =>
    simp only [aopK] at h ⊢
    cases hu : P.underlying t with
    | none => simp only [hu] at h
    | some d =>
      simp only [hu] at h ⊢
      exact pu (X := fun k => bif isAgg d then aldN (sizeT P t) (ρ x) L k else ald1 (ρ x) L k) (aone_bif2 (aone_ldN _ _ _) (aone_ld1 _ _)) h
  | nilCheck x => exact pu (aone_nilc _) h
  | binOp q t x y u =>
    simp only [aopK] at h ⊢
    cases hu : P.underlying t with
    | none => simp only [hu] at h
    | some d =>
      cases d <;> simp only [hu] at h ⊢ <;> first
        | exact h.elim
        | exact pu (aone_u2 (one_ar q) _ _) h
        | exact pu (aone_u2 (one_arB q) _ _) h
        | exact pu (aone_u2 (one_arF q) _ _) h
        | exact pu (aone_eqP q _ _) h
        | exact pu (aone_eqS q _ _) h
        | (cases y with
           | const c => exact pu (aone_eqI q _ _) h
           | _ => exact h.elim)
  | unOp q t x =>
    simp only [aopK] at h ⊢
    cases q <;> simp only at h ⊢ <;> first
      | exact h.elim
      | exact pu (aone_u1 one_notb _) h
      | exact pu (aone_u1 one_neg _) h
  | convert s' d x =>
    simp only [aopK] at h ⊢
    cases hs : P.underlying s' with
    | none => simp only [hs] at h
    | some u =>
      cases hd : P.underlying d with
      | none => simp only [hs, hd] at h
      | some v =>
        cases v <;> simp only [hs, hd] at h ⊢ <;> first
          | exact h.elim
          | exact pu (aone_u1 (one_cvI _) _) h
          | (cases u <;> simp only at h ⊢ <;> first
              | exact h.elim
              | exact pu (aone_bifF (aone_cvB (ρ x))) h)
  | makeMap t r => cases r <;> exact h.elim
  | typeAssert x xt t ok =>
    simp only [aopK] at h ⊢
    cases hu : P.underlying t with
    | none => simp only [hu] at h
    | some d =>
      cases d <;> simp only [hu] at h ⊢ <;> first
        | exact h.elim
        | exact pu (aone_zVb (B := zvOk) (X := fun z => atas t (dz z) (ρ x) ok) fun z => aone_tas _ _ _ _) h
  | lookup t x i ok =>
    simp only [aopK] at h ⊢
    cases hu : P.underlying t with
    | none => simp only [hu] at h
    | some d =>
      cases d <;> simp only [hu] at h ⊢ <;> try exact h.elim
      exact pu (aone_zVb (B := zvOk) (X := fun z => alkM P _ ok (dz z) (ρ x) (ρ i) L) fun z => aone_lkM _ _ _ _ _ _) h
  | makeFunc fn first cap =>
    simp only [aopK] at h ⊢
    cases fn <;> simp only at h ⊢ <;> first
      | exact h.elim
      | exact ⟨.ret _, ⟨rfl, rfl⟩, h⟩
  | fieldAddr s' x f =>
    simp only [aopK] at h ⊢
    cases hu : P.underlying s' with
    | none => simp only [hu] at h
    | some d =>
      cases d <;> simp only [hu] at h ⊢ <;> try exact h.elim
      split at h
      · rename_i hf
        exact pu (X := fun k => bif _ then afld _ (ρ x) k else False) (aone_bif (aone_fld _ _)) h
      · exact h.elim
  | field t x f =>
    simp only [aopK] at h ⊢
    cases hu : P.underlying t with
    | none => simp only [hu] at h
    | some d =>
      cases d <;> simp only [hu] at h ⊢ <;> try exact h.elim
      split at h
      · rename_i hf
        split at h
        · rename_i hf2
          exact pu (X := fun k => bif _ then afieldN _ _ (ρ x) k else afield1 _ (ρ x) k) (aone_bif2 (aone_fieldN _ _ _) (aone_field1 _ _)) h
        · exact h.elim
      · exact h.elim
  | indexAddr t x i =>
    simp only [aopK] at h ⊢
    cases hu : P.underlying t with
    | none => simp only [hu] at h
    | some d =>
      cases d <;> simp only [hu] at h ⊢ <;> first
        | exact h.elim
        | exact pu (X := fun k => bif _ then aidxS _ (ρ x) (ρ i) k else False) (aone_bif (aone_idxS _ _ _)) h
        | exact pu (X := fun k => bif _ then aidxP _ _ (ρ x) (ρ i) k else False) (aone_bif (aone_idxP _ _ _ _)) h
  | index t x i =>
    simp only [aopK] at h ⊢
    cases hu : P.underlying t with
    | none => simp only [hu] at h
    | some d =>
      cases d <;> simp only [hu] at h ⊢ <;> first
        | exact h.elim
        | exact pu (aone_u2 one_idxStr _ _) h
  | extract x j => exact pu (aone_ext _ _) h
  | slice t x lo hi mx =>
    cases mx with
    | some m =>
      simp only [aopK] at h ⊢
      cases hu : P.underlying t with
      | none => simp only [hu] at h
      | some d =>
        cases d <;> simp only [hu] at h ⊢ <;> first
          | exact h.elim
          | exact pu (X := fun k => bif _ then aslcM _ (ρ x) (lo.map ρ) (hi.map ρ) (some (ρ m)) k else False) (aone_bif (aone_slcM _ _ _ _ _)) h
    | none =>
      simp only [aopK] at h ⊢
      cases hu : P.underlying t with
      | none => simp only [hu] at h
      | some d =>
        cases d <;> simp only [hu] at h ⊢ <;> first
          | exact h.elim
          | exact pu (aone_slcS _ _ _) h
          | exact pu (X := fun k => bif _ then aslcL _ (ρ x) (lo.map ρ) (hi.map ρ) k else False) (aone_bif (aone_slcL _ _ _ _)) h
  | makeInterface t x =>
    simp only [aopK] at h ⊢
    cases hu : P.underlying t with
    | none => simp only [hu] at h
    | some d =>
      cases d <;> simp only [hu] at h ⊢ <;> first
        | exact h.elim
        | exact ⟨.ret _, ⟨rfl, rfl⟩, h⟩
  | panic x =>
    simp only [aopK] at h ⊢
    split at h
    · exact ⟨.pan _, ⟨rfl, rfl⟩, h⟩
    · exact h.elim
  | call c =>
    simp only [aopK] at h ⊢
    obtain ⟨cal, args, tys⟩ := c
    cases cal with
    | value f =>
      simp only at h ⊢
      unfold acallF at h ⊢
      split at h
      · simp only [cond_true] at h ⊢
        obtain ⟨ae, h1, h2⟩ := h
        refine ⟨ae, ⟨ae, h1, ?_⟩, h2⟩
        cases ae
        · exact ⟨rfl, rfl⟩
        · exact ⟨rfl, rfl⟩
      · exact h.elim
    | builtin b =>
      simp only at h ⊢
      split at h
      · split at h
        · exact pu (aone_u1 one_lenS _) h
        · exact pu (aone_lenL _) h
        · exact h.elim
      · exact pu (aone_u2 one_max2 _ _) h
      · exact pu (aone_max3 _ _ _) h
      · exact pu (aone_u2 one_min2 _ _) h
      · exact h.elim
      · exact h.elim
      · exact h.elim
      · exact h.elim
    | invoke r m => exact h.elim
  | _ => exact h.elim
theorem aonep {ty : TypeId} {op : Op} {ρ : Operand → D} {L : List Bx} {k kp : D → List Bx → Prop} (hpu : pureOp op = true) (h : aopK P true ty op ρ L k kp) :
    ∃ d, (∀ L', aopK P true ty op ρ L' (SR (.ret d) L') (SP (.ret d) L')) ∧ k d L := by
  have pu : ∀ {X : (D → Prop) → Prop}, AOne X → X (fun d => k d L) → ∃ d : D, (∀ L', X (fun q => SR (.ret d) L' q L')) ∧ k d L := fun {X} h1 h2 => by
    obtain ⟨d, h3, h4⟩ := h1 _ h2
    exact ⟨d, fun L' => h4 _ ⟨rfl, rfl⟩, h3⟩
  cases op with
  | move x => exact ⟨ρ x, fun _ => ⟨rfl, rfl⟩, h⟩
  | assign x => exact ⟨ρ x, fun _ => ⟨rfl, rfl⟩, h⟩
  | pick c x y => exact pu (aone_pick _ _ _) h
  | build t ps =>
    simp only [aopK] at h ⊢
    cases hu : P.underlying t with
    | none => simp only [hu] at h
    | some d =>
      cases d <;> simp only [hu] at h ⊢ <;> first
        | exact h.elim
        | exact pu (aone_zTb (X := fun z => abld (vals z) (apartsT P t ρ ps.toList)) fun z => aone_bld _ _) h
  | buildSlice t n ps =>
    simp only [aopK, cond_true] at h ⊢
    cases hu : P.underlying t with
    | none => simp only [hu] at h
    | some d =>
      cases d <;> simp only [hu] at h ⊢ <;> try exact h.elim
      rename_i e
      exact pu (aone_zTb (X := fun z => abldF (sizeT P e) n (vals (reps n z)) (apartsT P t ρ ps.toList)) fun z => aone_bldF _ _ _ _) h
  | load t x => cases hpu
  | nilCheck x => exact pu (aone_nilc _) h
  | binOp q t x y u =>
    simp only [aopK] at h ⊢
    cases hu : P.underlying t with
    | none => simp only [hu] at h
    | some d =>
      cases d <;> simp only [hu] at h ⊢ <;> first
        | exact h.elim
        | exact pu (aone_u2 (one_ar q) _ _) h
        | exact pu (aone_u2 (one_arB q) _ _) h
        | exact pu (aone_u2 (one_arF q) _ _) h
        | exact pu (aone_eqP q _ _) h
        | exact pu (aone_eqS q _ _) h
        | (cases y with
           | const c => exact pu (aone_eqI q _ _) h
           | _ => exact h.elim)
  | unOp q t x =>
    simp only [aopK] at h ⊢
    cases q <;> simp only at h ⊢ <;> first
      | exact h.elim
      | exact pu (aone_u1 one_notb _) h
      | exact pu (aone_u1 one_neg _) h
  | convert s' d x =>
    simp only [aopK] at h ⊢
    cases hs : P.underlying s' with
    | none => simp only [hs] at h
    | some u =>
      cases hd : P.underlying d with
      | none => simp only [hs, hd] at h
      | some v =>
        cases v <;> simp only [hs, hd] at h ⊢ <;> first
          | exact h.elim
          | exact pu (aone_u1 (one_cvI _) _) h
          | (cases u <;> simp only at h ⊢ <;> first
              | exact h.elim
              | exact pu (aone_bifF (aone_cvB (ρ x))) h)
  | makeMap t r => cases hpu
  | lookup t x i ok => cases hpu
  | typeAssert x xt t ok =>
    simp only [aopK] at h ⊢
    cases hu : P.underlying t with
    | none => simp only [hu] at h
    | some d =>
      cases d <;> simp only [hu] at h ⊢ <;> first
        | exact h.elim
        | exact pu (aone_zVb (B := zvOk) (X := fun z => atas t (dz z) (ρ x) ok) fun z => aone_tas _ _ _ _) h
  | makeFunc fn first cap =>
    simp only [aopK] at h ⊢
    cases fn <;> simp only at h ⊢ <;> first
      | exact h.elim
      | exact ⟨_, fun _ => ⟨rfl, rfl⟩, h⟩
  | fieldAddr s' x f =>
    simp only [aopK] at h ⊢
    cases hu : P.underlying s' with
    | none => simp only [hu] at h
    | some d =>
      cases d <;> simp only [hu] at h ⊢ <;> try exact h.elim
      split at h
      · rename_i hf
        exact pu (X := fun k => bif _ then afld _ (ρ x) k else False) (aone_bif (aone_fld _ _)) h
      · exact h.elim
  | field t x f =>
    simp only [aopK] at h ⊢
    cases hu : P.underlying t with
    | none => simp only [hu] at h
    | some d =>
      cases d <;> simp only [hu] at h ⊢ <;> try exact h.elim
      split at h
      · rename_i hf
        split at h
        · rename_i hf2
          exact pu (X := fun k => bif _ then afieldN _ _ (ρ x) k else afield1 _ (ρ x) k) (aone_bif2 (aone_fieldN _ _ _) (aone_field1 _ _)) h
        · exact h.elim
      · exact h.elim
  | indexAddr t x i =>
    simp only [aopK] at h ⊢
    cases hu : P.underlying t with
    | none => simp only [hu] at h
    | some d =>
      cases d <;> simp only [hu] at h ⊢ <;> first
        | exact h.elim
        | exact pu (X := fun k => bif _ then aidxS _ (ρ x) (ρ i) k else False) (aone_bif (aone_idxS _ _ _)) h
        | exact pu (X := fun k => bif _ then aidxP _ _ (ρ x) (ρ i) k else False) (aone_bif (aone_idxP _ _ _ _)) h
  | index t x i =>
    simp only [aopK] at h ⊢
    cases hu : P.underlying t with
    | none => simp only [hu] at h
    | some d =>
      cases d <;> simp only [hu] at h ⊢ <;> first
        | exact h.elim
        | exact pu (aone_u2 one_idxStr _ _) h
  | extract x j => exact pu (aone_ext _ _) h
  | slice t x lo hi mx =>
    cases mx with
    | some m =>
      simp only [aopK] at h ⊢
      cases hu : P.underlying t with
      | none => simp only [hu] at h
      | some d =>
        cases d <;> simp only [hu] at h ⊢ <;> first
          | exact h.elim
          | exact pu (X := fun k => bif _ then aslcM _ (ρ x) (lo.map ρ) (hi.map ρ) (some (ρ m)) k else False) (aone_bif (aone_slcM _ _ _ _ _)) h
    | none =>
      simp only [aopK] at h ⊢
      cases hu : P.underlying t with
      | none => simp only [hu] at h
      | some d =>
        cases d <;> simp only [hu] at h ⊢ <;> first
          | exact h.elim
          | exact pu (aone_slcS _ _ _) h
          | exact pu (X := fun k => bif _ then aslcL _ (ρ x) (lo.map ρ) (hi.map ρ) k else False) (aone_bif (aone_slcL _ _ _ _)) h
  | makeInterface t x =>
    simp only [aopK] at h ⊢
    cases hu : P.underlying t with
    | none => simp only [hu] at h
    | some d =>
      cases d <;> simp only [hu] at h ⊢ <;> first
        | exact h.elim
        | exact ⟨_, fun _ => ⟨rfl, rfl⟩, h⟩
  | panic x => cases hpu
  | call c =>
    simp only [aopK] at h ⊢
    obtain ⟨cal, args, tys⟩ := c
    cases cal with
    | value f => cases hpu
    | builtin b =>
      simp only at h ⊢
      split at h
      · split at h
        · exact pu (aone_u1 one_lenS _) h
        · exact pu (aone_lenL _) h
        · exact h.elim
      · exact pu (aone_u2 one_max2 _ _) h
      · exact pu (aone_max3 _ _ _) h
      · exact pu (aone_u2 one_min2 _ _) h
      · exact h.elim
      · exact h.elim
      · exact h.elim
      · exact h.elim
    | invoke r m => exact h.elim
  | _ => exact h.elim
end
end Go.V
set_option linter.unusedVariables false
namespace Go.V
open Go
section
variable {P : Program} {o : Oper}
theorem rem_mem {d : Option Tmp} {sk : List Nat} {x : Nat} (h : x ∈ rem d sk) : x ∈ sk ∧ d ≠ some x := by
  cases d with
  | none => exact ⟨h, by simp⟩
  | some d =>
    simp only [rem, List.mem_filter, Bool.cond_eq_ite] at h
    refine ⟨h.1, fun hh => ?_⟩
    simp only [Option.some.injEq] at hh
    subst hh
    simp at h
def Rd (ops : Array Oper) (D : Nat → Prop) (i : Nat) : Prop := ¬ D i ∧ ∃ o, ops[i]? = some o ∧ ∀ y ∈ ons o.after.toList, D y
def ins (i : Nat) (D : Nat → Prop) : Nat → Prop := fun x => x = i ∨ D x
inductive Tr (ops : Array Oper) (j : Nat) : Nat → Prop
  | edge {i : Nat} {o : Oper} (h : ops[i]? = some o) (hj : j ∈ ons o.after.toList) : Tr ops j i
  | step {i k : Nat} {o : Oper} (h : ops[i]? = some o) (hk : k ∈ ons o.after.toList) (ht : Tr ops j k) : Tr ops j i
def KdOk7 (P : Program) (ops : Array Oper) (S V D : Nat → Prop) (i kd : Nat) (p : Plan) : Prop :=
  kd = 0 ∨ (kd = 1 ∧ ∀ q ∈ p, Tr ops i q.1) ∨ (kd = 2 ∧ (∀ q ∈ p, Tr ops i q.1) ∧ ∀ j, D j → Tr ops j i ∨ pureAt ops.toList j = true) ∨ (3 ≤ kd ∧ kd ≠ 5 ∧ kd ≠ 7 ∧ (∀ q ∈ p, Tr ops i q.1) ∧ (allocAt ops.toList i = true ∨ (kd = 4 ∧ ∀ j, D j → Tr ops j i ∨ pureAt ops.toList j = true ∨ S j))) ∨ (kd = 5 ∧ pureAt ops.toList i = false) ∨ (kd = 6 ∧ ∀ q ∈ p, Tr ops i q.1 ∨ newAt P ops.toList q.1 = true) ∨
  (kd = 7 ∧ storeAt ops.toList i = true ∧ (∀ q ∈ p, Tr ops i q.1 ∨ (allocAt ops.toList q.1 = false ∧ ((q.2 = 0 ∧ pureAt ops.toList q.1 = true) ∨ q.2 = 5 ∨ q.2 = 7))) ∧ ∀ j, D j → Tr ops j i ∨ pureAt ops.toList j = true ∨ S j ∨ V j)
def PlanOk (P : Program) (ops : Array Oper) (S V : Nat → Prop) : (Nat → Prop) → Plan → Prop
  | D, [] => ∀ i, ¬ Rd ops D i
  | D, (i, kd) :: p => Rd ops D i ∧ ((S i ↔ kd = 5) ∧ (V i ↔ kd = 7)) ∧ KdOk7 P ops S V D i kd p ∧ PlanOk P ops S V (ins i D) p
def rmA (i : Nat) : Plan → Plan
  | [] => []
  | (j, kd) :: p => if i = j then p else (j, kd) :: rmA i p
theorem rmA_sub (i : Nat) : ∀ (p : Plan), ∀ q ∈ rmA i p, q ∈ p
  | [], q, h => by cases h
  | (j, kd) :: p, q, h => by
    unfold rmA at h
    split at h
    · exact List.mem_cons_of_mem _ h
    · rcases List.mem_cons.1 h with rfl | h
      · exact List.mem_cons_self
      · exact List.mem_cons_of_mem _ (rmA_sub i p q h)
def Shut (ops : Array Oper) (D : Nat → Prop) : Prop := ∀ x o, D x → ops[x]? = some o → ∀ y ∈ ons o.after.toList, D y

theorem tr_shut {ops : Array Oper} {D : Nat → Prop} (hD : Shut ops D) {i j : Nat} (ht : Tr ops j i) : (∀ o, ops[i]? = some o → ∀ y ∈ ons o.after.toList, D y) → D j := by
  induction ht with
  | edge h hj => exact fun hi => hi _ h _ hj
  | step h hk ht ih => exact fun hi => ih fun o ho y hy => hD _ o (hi _ h _ hk) ho y hy
theorem ins_comm (i j : Nat) (D : Nat → Prop) : ins i (ins j D) = ins j (ins i D) := by
  funext x
  simp only [ins, ← or_assoc, or_comm (a := x = i)]

def WA (ops : Array Oper) (o : Oper) (e : AEnv) (b : Bool) : Prop :=
  match gdst ops o with
  | none => b = true
  | some (some d, want) => ∃ v, e.get d = .val v ∧ (b = true ↔ v = .bool want)
  | _ => False
theorem rd_mem {P : Program} {ops : Array Oper} {S V : Nat → Prop} {i : Nat} : ∀ (p : Plan) (D : Nat → Prop), PlanOk P ops S V D p → Rd ops D i → ∃ kd, (i, kd) ∈ p ∧ (S i ↔ kd = 5) ∧ (V i ↔ kd = 7)
  | [], D, h, hi => absurd hi (h i)
  | (j, kd) :: p, D, h, hi => by
    by_cases hij : i = j
    · subst hij; exact ⟨kd, List.mem_cons_self, h.2.1⟩
    · obtain ⟨q, hq, hs⟩ := rd_mem p (ins j D) h.2.2.2 ⟨fun hx => hx.elim hij hi.1, by obtain ⟨o, ho, he⟩ := hi.2; exact ⟨o, ho, fun y hy => .inr (he y hy)⟩⟩
      exact ⟨q, List.mem_cons_of_mem _ hq, hs⟩
theorem still_cons {ρ : Operand → D} {L : List Bx} {ae : AE} (h : StillA P o ρ L ae) (M : List Bx) : StillA P o ρ (M ++ L) ae := by
  intro F w ρc aw hr
  have hp : (M ++ L).Perm (L ++ M) := (List.perm_append_comm (l₁ := M) (l₂ := L))
  have aw1 := aw.perm hp
  refine (h F w ρc aw1.left hr).mono ?_ ?_
  · rintro v w' ⟨d, F', L', ⟨h1, rfl⟩, h2, h3, h4⟩
    obtain ⟨q1, q2⟩ := aw1.frame h2 h3
    exact ⟨d, F', _, ⟨h1, rfl⟩, q2.perm hp.symm hp.symm, q1.perm hp.symm, h4⟩
  · rintro c w' ⟨d, F', L', v, ⟨h1, rfl⟩, h0, h2, h3, h4⟩
    obtain ⟨q1, q2⟩ := aw1.frame h2 h3
    exact ⟨d, F', _, v, ⟨h1, rfl⟩, h0, q2.perm hp.symm hp.symm, q1.perm hp.symm, h4⟩
theorem still_mem {ρ : Operand → D} {L : List Bx} {x : Bx} {ae : AE} (h : StillA P o ρ [x] ae) (hx : x ∈ L) : StillA P o ρ L ae := by
  obtain ⟨s, t, rfl⟩ := List.append_of_mem hx
  have hp : (s ++ x :: t).Perm ((s ++ t) ++ [x]) := by
    refine List.perm_middle.trans ?_
    exact (List.perm_append_comm (l₁ := [x]) (l₂ := s ++ t))
  have h2 := still_cons h (s ++ t)
  intro F w ρc aw hr
  refine (h2 F w ρc (aw.perm hp) hr).mono ?_ ?_
  · rintro v w' ⟨d, F', L', ⟨h1, rfl⟩, h2, h3, h4⟩
    exact ⟨d, F', _, ⟨h1, rfl⟩, h2.perm hp.symm hp.symm, h3.perm hp.symm, h4⟩
  · rintro c w' ⟨d, F', L', v, ⟨h1, rfl⟩, h0, h2, h3, h4⟩
    exact ⟨d, F', _, v, ⟨h1, rfl⟩, h0, h2.perm hp.symm hp.symm, h3.perm hp.symm, h4⟩
theorem set_mid {α : Type _} (s t : List α) (x y : α) : (s ++ x :: t).set s.length y = s ++ y :: t := by
  induction s with
  | nil => rfl
  | cons a s ih => simp [ih]
theorem map_set_b {L : List Bx} {m : Nat} {x y : Bx} (hx : L[m]? = some x) (hb : y.b = x.b) : (L.set m y).map Bx.b = L.map Bx.b := by
  rw [List.map_set, hb]
  refine List.ext_getElem? fun k => ?_
  rw [List.getElem?_set]
  split
  · rename_i h
    subst h
    rw [List.getElem?_map, hx]
    split
    · rfl
    · rename_i h2
      have := (List.getElem?_eq_some_iff.1 hx).1
      simp at h2
      omega
  · rfl
theorem goA_mem {ρ : Operand → D} {L : List Bx} {m : Nat} {x y : Bx} {d : D} (h : GoA P o ρ [x] (fun v L' => v = d ∧ L' = [y]) (fun _ _ => False)) (hx : L[m]? = some x) :
    GoA P o ρ L (fun v L' => v = d ∧ L' = L.set m y) (fun _ _ => False) := by
  obtain ⟨hm, hx⟩ := List.getElem?_eq_some_iff.1 hx
  have hL : L = L.take m ++ x :: L.drop (m + 1) := by
    rw [← hx, List.getElem_cons_drop, List.take_append_drop]
  have hset : L.set m y = L.take m ++ y :: L.drop (m + 1) := by
    have := set_mid (L.take m) (L.drop (m + 1)) x y
    rw [← hL, List.length_take, Nat.min_eq_left (Nat.le_of_lt hm)] at this
    exact this
  have hp : ∀ z : Bx, (L.take m ++ z :: L.drop (m + 1)).Perm ([z] ++ (L.take m ++ L.drop (m + 1))) := fun z => List.perm_middle
  intro F w ρc aw hr
  rw [hL] at aw
  have aw1 := aw.perm (hp x)
  refine (h F w ρc aw1.left hr).mono ?_ ?_
  · rintro v w' ⟨d', F', L', ⟨rfl, rfl⟩, h2, h3, h4⟩
    obtain ⟨q1, q2⟩ := aw1.frame h2 h3
    refine ⟨d', F', L.set m y, ⟨rfl, rfl⟩, ?_, ?_, h4⟩
    · have hpL : ([x] ++ (L.take m ++ L.drop (m + 1))).Perm L := by
        conv => rhs; rw [hL]
        exact (hp x).symm
      rw [hset]
      exact q2.perm hpL (hp y).symm
    · rw [hset]; exact q1.perm (hp y).symm
  · rintro c w' ⟨d', F', L', v, h1, _⟩
    exact h1.elim
def StillK (P : Program) (o : Oper) (ρ : Operand → D) (L : List Bx) (d : D) : Prop := StillA P o ρ L (.ret d) ∧ (pureOp o.op = true → ∀ L', StillA P o ρ L' (.ret d))
theorem StillK.congr {ρ ρ' : Operand → D} {L : List Bx} {d : D} (h : StillK P o ρ L d) (he : ∀ x ∈ o.op.operands.toList, ρ x = ρ' x) : StillK P o ρ' L d :=
  ⟨h.1.congr he, fun hp L' => (h.2 hp L').congr he⟩
theorem StillK.to {ρ : Operand → D} {L L' : List Bx} {d : D} (h : StillK P o ρ L d) (hl : L' = L ∨ pureOp o.op = true ∨ ∃ M, L' = M ++ L) : StillK P o ρ L' d := by
  rcases hl with rfl | hp | ⟨M, rfl⟩
  · exact h
  · exact ⟨h.2 hp L', h.2⟩
  · exact ⟨still_cons h.1 M, h.2⟩
def runA (P : Program) (ops : Array Oper) (Q : AX → AEnv → List Bx → Prop) : Plan → List Nat → List Nat → AEnv → List Bx → Prop
  | [], _, _, ae, L => Q .normal ae L
  | (i, kd) :: p, rd, wr, ae, L => ∃ o, ops[i]? = some o ∧
     ((WA ops o ae true ∧ (kd < 2 ∨ kd = 6) ∧ ∃ d, StillK P o ae.ev L d ∧ runA P ops Q p rd wr (ae.put o.dst d) L) ∨
      (WA ops o ae true ∧ (kd = 1 ∨ kd = 6) ∧ ∃ d, StillA P o ae.ev L (.pan d) ∧ ∃ M L2, L = M ++ L2 ∧ ∃ e', e'.dfr = ae.dfr ∧ Q (.panic d) e' L2) ∨
      (WA ops o ae true ∧ (2 ≤ kd ∧ kd ≠ 5 ∧ kd ≠ 6 ∧ kd ≠ 7) ∧ GoA P o ae.ev L (fun v L' => ((allocAt ops.toList i = true → ∃ M, L' = M ++ L) ∧ (kd = 4 → ∀ x ∈ L, x.k = .box → x ∈ L')) ∧ runA P ops Q p rd wr (ae.put o.dst v) L') (fun c L' => Q (.panic c) ae L')) ∨
      (WA ops o ae true ∧ kd = 5 ∧ ∃ d x, x ∈ L ∧ x.k = .box ∧ ((L.map Bx.b).Nodup → x.b ∉ wr) ∧ StillA P o ae.ev [x] (.ret d) ∧ runA P ops Q p (x.b :: rd) wr (ae.put o.dst d) L) ∨
      (WA ops o ae true ∧ kd = 7 ∧ ∃ d m x y, L[m]? = some x ∧ y.b = x.b ∧ ((L.map Bx.b).Nodup → x.b ∉ rd ++ wr) ∧ GoA P o ae.ev [x] (fun v L' => v = d ∧ L' = [y]) (fun _ _ => False) ∧ runA P ops Q p rd (x.b :: wr) (ae.put o.dst d) (L.set m y)) ∨
      (WA ops o ae false ∧ runA P ops Q p rd wr (ae.put o.dst (.val undef)) L))
theorem runA_weak {ops : Array Oper} {Q : AX → AEnv → List Bx → Prop} : ∀ (p : Plan) (rd wr rd' wr' : List Nat) (e : AEnv) (L : List Bx), runA P ops Q p rd wr e L → (∀ b ∈ rd', b ∈ rd) → (∀ b ∈ wr', b ∈ wr) → runA P ops Q p rd' wr' e L
  | [], _, _, _, _, _, _, h, _, _ => h
  | (i, kd) :: p, rd, wr, rd', wr', e, L, h, hr, hw => by
    obtain ⟨o, ho, h⟩ := h
    refine ⟨o, ho, ?_⟩
    have cc : ∀ {l l' : List Nat} (c : Nat), (∀ b ∈ l', b ∈ l) → ∀ b ∈ c :: l', b ∈ c :: l := fun c hl b hb => by
      rcases List.mem_cons.1 hb with rfl | hb
      · exact List.mem_cons_self
      · exact List.mem_cons_of_mem _ (hl b hb)
    rcases h with ⟨a, b, d, c, r⟩ | ⟨a, b, d, c, r⟩ | ⟨a, b, r⟩ | ⟨a, b, d, x, hx, hbx, hn, c, r⟩ | ⟨a, b, d, m, x, y, hx, hy, hn, c, r⟩ | ⟨a, r⟩
    · exact .inl ⟨a, b, d, c, runA_weak p _ _ _ _ _ _ r hr hw⟩
    · exact .inr (.inl ⟨a, b, d, c, r⟩)
    · exact .inr (.inr (.inl ⟨a, b, r.mono (fun v L' h => ⟨h.1, runA_weak p _ _ _ _ _ _ h.2 hr hw⟩) fun _ _ h => h⟩))
    · exact .inr (.inr (.inr (.inl ⟨a, b, d, x, hx, hbx, fun h hh => hn h (hw _ hh), c, runA_weak p _ _ _ _ _ _ r (cc _ hr) hw⟩)))
    · refine .inr (.inr (.inr (.inr (.inl ⟨a, b, d, m, x, y, hx, hy, fun h hh => hn h ?_, c, runA_weak p _ _ _ _ _ _ r hr (cc _ hw)⟩))))
      rcases List.mem_append.1 hh with h | h
      · exact List.mem_append_left _ (hr _ h)
      · exact List.mem_append_right _ (hw _ h)
    · exact .inr (.inr (.inr (.inr (.inr ⟨a, runA_weak p _ _ _ _ _ _ r hr hw⟩))))
theorem aapart_spec {L : List Bx} {l : List Nat} {b : Nat} {X : Prop} (h : aapart L l b X) : ((L.map Bx.b).Nodup → b ∉ l) ∧ X := by
  cases l with
  | nil => exact ⟨fun _ hh => (by cases hh), h⟩
  | cons c l => exact h
theorem aguard_spec {ops : Array Oper} {sk : List Nat} {e : AEnv} {yes no : AEnv → Prop} (h : aguard ops sk o e yes no) (hsk : ∀ d ∈ sk, e.get d = .val undef) :
    (WA ops o e true ∧ yes e) ∨ (WA ops o e false ∧ no e) := by
  unfold aguard at h
  cases hg : gdst ops o with
  | none => simp only [hg] at h; exact .inl ⟨by simp [WA, hg], h⟩
  | some x =>
    obtain ⟨d, want⟩ := x
    cases d with
    | none => simp only [hg] at h
    | some d =>
      simp only [hg, pcond_eq, Bool.cond_eq_ite] at h
      split at h
      · rename_i hm
        refine .inr ⟨?_, h⟩
        simp only [WA, hg]
        exact ⟨undef, hsk d ((mem_iff sk d).1 hm), by simp [undef]⟩
      · unfold acnd at h
        split at h
        · rename_i t ht
          have hp : ∀ b, b = t → e.put (some d) (.b b) = e := fun b hb => aput_same (by rw [ht, hb])
          cases t <;> cases want <;> simp only [cond_true, cond_false, Bool.false_eq_true, if_true, if_false] at h <;> rw [hp _ rfl] at h
          · exact .inl ⟨by simp only [WA, hg]; exact ⟨_, ht, by simp⟩, h⟩
          · exact .inr ⟨by simp only [WA, hg]; exact ⟨_, ht, by simp⟩, h⟩
          · exact .inr ⟨by simp only [WA, hg]; exact ⟨_, ht, by simp⟩, h⟩
          · exact .inl ⟨by simp only [WA, hg]; exact ⟨_, ht, by simp⟩, h⟩
        · exact h.elim
theorem ask_put {sk : List Nat} {e : AEnv} (hsk : ∀ d ∈ sk, e.get d = .val undef) (d : Option Tmp) (v : D) : ∀ x ∈ rem d sk, (e.put d v).get x = .val undef := by
  intro x hx
  obtain ⟨h1, h2⟩ := rem_mem hx
  cases d with
  | none => exact hsk x h1
  | some d => rw [AEnv.get_put, if_neg (fun hh => h2 (by rw [hh]))]; exact hsk x h1
theorem ask_add {sk : List Nat} {e : AEnv} (hsk : ∀ d ∈ sk, e.get d = .val undef) (d : Option Tmp) : ∀ x ∈ add d sk, (e.put d (.val undef)).get x = .val undef := by
  intro x hx
  cases d with
  | none => exact hsk x hx
  | some d =>
    rw [AEnv.get_put]
    split
    · rfl
    · rename_i h; exact hsk x ((List.mem_cons.1 hx).resolve_left h)
theorem akd_ne {kd : Nat} {a b c d : Prop} (h5 : kd ≠ 5) (h6 : kd ≠ 6) (h7 : kd ≠ 7) (h : akd kd a b c d) : d := by
  have e : ∀ n, kd ≠ n → Nat.beq kd n = false := fun n hn => by rw [Bool.eq_false_iff]; intro hh; rw [Nat.beq_eq] at hh; exact hn hh
  unfold akd at h
  rw [e _ h5, e _ h6, e _ h7] at h
  exact h
theorem aonly_lt {kd : Nat} (hk : kd < 2) {L L' : List Bx} {X : Prop} (h : aonly kd L L' X) : X := by
  unfold aonly at h
  rw [pcond_eq, Bool.cond_eq_ite] at h
  split at h
  · exact h.2
  · exact h
def strip : Plan → Plan
  | [] => []
  | (i, kd) :: p => (i, kd % 10) :: strip p
theorem strip_mem : ∀ {p : Plan} {q : Nat × Nat}, q ∈ strip p → ∃ q' ∈ p, q'.1 = q.1
  | (i, kd) :: p, q, h => by
    rw [strip] at h
    rcases List.mem_cons.1 h with rfl | h
    · exact ⟨_, List.mem_cons_self, rfl⟩
    · obtain ⟨q', h1, h2⟩ := strip_mem h
      exact ⟨q', List.mem_cons_of_mem _ h1, h2⟩
theorem asel_imp {dec x : Nat} {f : AEnv → Prop} {e : AEnv} (h : asel dec x f e) : f e := by
  unfold asel at h
  rw [pcond_eq, Bool.cond_eq_ite] at h
  split at h
  · exact h.elim
  · exact h
theorem run_of_draw {ops : Array Oper} {Q : AX → AEnv → List Bx → Prop} : ∀ (p : Plan) (rd wr sk : List Nat) (e : AEnv) (L : List Bx),
    adraw P ops p rd wr sk e L Q → (∀ d ∈ sk, e.get d = .val undef) → runA P ops Q (strip p) rd wr e L
  | [], _, _, _, _, _, h, _ => h
  | (i, kd) :: p, rd, wr, sk, e, L, h, hsk => by
    unfold adraw at h
    simp only [aopQ_eq] at h
    rw [strip]
    revert h
    generalize kd % 10 = kd', kd / 10 = dec
    clear kd
    intro h
    revert h
    generalize hkd : kd' = kd
    clear hkd kd'
    intro h
    split at h
    case h_2 => exact h.elim
    rename_i o ho
    have ho' : ops[i]? = some o := by rw [← Array.getElem?_toList]; exact ho
    refine ⟨o, ho', ?_⟩
    rcases aguard_spec h hsk with ⟨hw, hy⟩ | ⟨hw, hn⟩
    rotate_left
    · exact .inr (.inr (.inr (.inr (.inr ⟨hw, run_of_draw p _ _ _ _ _ (asel_imp hn) (ask_add hsk _)⟩))))
    have hy := asel_imp hy
    by_cases h5 : kd = 5
    · subst h5
      obtain ⟨x, hx, hb, hy⟩ := hy
      obtain ⟨hnd, hy⟩ := aapart_spec hy
      obtain ⟨ae, h1, h2⟩ := aone hy
      cases ae with
      | ret d => exact .inr (.inr (.inr (.inl ⟨hw, rfl, d, x, hx, hb, hnd, goA_of h1, run_of_draw p _ _ _ _ _ h2 (ask_put hsk _ _)⟩)))
      | pan d => exact h2.elim
    by_cases h7 : kd = 7
    · subst h7
      obtain ⟨m, x, y, d, hx, hb, hy⟩ := hy
      obtain ⟨hnd, hy, hr⟩ := aapart_spec hy
      exact .inr (.inr (.inr (.inr (.inl ⟨hw, rfl, d, m, x, y, hx, hb, hnd, goA_of hy, run_of_draw p _ _ _ _ _ hr (ask_put hsk _ _)⟩))))
    by_cases h6 : kd = 6
    · subst h6
      by_cases hpu : pureOp o.op = true
      · obtain ⟨d, h1, h2⟩ := aonep hpu hy
        exact .inl ⟨hw, .inr rfl, d, ⟨goA_of (h1 L), fun _ L' => goA_of (h1 L')⟩, run_of_draw p _ _ _ _ _ h2 (ask_put hsk _ _)⟩
      obtain ⟨ae, h1, h2⟩ := aone hy
      cases ae with
      | ret d => exact .inl ⟨hw, .inr rfl, d, ⟨goA_of h1, fun hh => absurd hh hpu⟩, run_of_draw p _ _ _ _ _ h2 (ask_put hsk _ _)⟩
      | pan d => exact .inr (.inl ⟨hw, .inr rfl, d, goA_of h1, [], L, rfl, e, rfl, h2⟩)
    · have hy := akd_ne h5 h6 h7 hy
      by_cases hk : kd < 2
      · have hb : Nat.blt kd 2 = true := by simp [Nat.blt_eq]; exact hk
        rw [hb] at hy
        by_cases hpu : pureOp o.op = true
        · obtain ⟨d, h1, h2⟩ := aonep hpu hy
          exact .inl ⟨hw, .inl hk, d, ⟨goA_of (h1 L), fun _ L' => goA_of (h1 L')⟩, run_of_draw p _ _ _ _ _ (aonly_lt hk h2) (ask_put hsk _ _)⟩
        obtain ⟨ae, h1, h2⟩ := aone hy
        cases ae with
        | ret d => exact .inl ⟨hw, .inl hk, d, ⟨goA_of h1, fun hh => absurd hh hpu⟩, run_of_draw p _ _ _ _ _ (aonly_lt hk h2) (ask_put hsk _ _)⟩
        | pan d =>
          match kd, hk, h2 with
          | 0, _, h2 => exact h2.elim
          | 1, _, h2 => exact .inr (.inl ⟨hw, .inl rfl, d, goA_of h1, [], L, rfl, e, rfl, h2⟩)
      · match kd, hk, hy with
        | 0, hk, _ => exact absurd (by decide) hk
        | 1, hk, _ => exact absurd (by decide) hk
        | kd + 2, hk, hy =>
          have hb : Nat.blt (kd + 2) 2 = false := by
            rw [Bool.eq_false_iff]; intro hh; rw [Nat.blt_eq] at hh; omega
          rw [hb] at hy
          refine .inr (.inr (.inl ⟨hw, ⟨by omega, h5, h6, h7⟩, ?_⟩))
          have fin : ∀ v L', aonly (kd + 2) L L' (adraw P ops p rd wr (rem o.dst sk) (e.put o.dst v) L' Q) → runA P ops Q (strip p) rd wr (e.put o.dst v) L' ∧ (kd + 2 = 4 → ∀ x ∈ L, x.k = .box → x ∈ L') := by
            intro v L' h
            unfold aonly at h
            simp only [pcond_eq, Bool.cond_eq_ite, Nat.beq_eq] at h
            split at h
            · exact ⟨run_of_draw p _ _ _ _ _ h.2 (ask_put hsk _ _), fun _ => h.1⟩
            · next hne => exact ⟨run_of_draw p _ _ _ _ _ h (ask_put hsk _ _), fun hh => absurd hh hne⟩
          by_cases hal : allocAt ops.toList i = true
          · have hop : ∃ t, o.op = .alloc t := by
              unfold allocAt at hal
              rw [ho] at hal
              simp only at hal
              split at hal
              · rename_i t ht; exact ⟨t, ht⟩
              · cases hal
            obtain ⟨t, ht⟩ := hop
            have hz : aopK P false o.type o.op e.ev L (fun v L' => ((allocAt ops.toList i = true → ∃ M, L' = M ++ L) ∧ (kd + 2 = 4 → ∀ x ∈ L, x.k = .box → x ∈ L')) ∧ runA P ops Q (strip p) rd wr (e.put o.dst v) L') (fun c L' => Q (.panic c) e L') := by
              rw [ht] at hy ⊢
              simp only [aopK, cond_false] at hy ⊢
              refine zT_mono hy fun z hz => ?_
              rw [Bool.cond_eq_ite] at hz ⊢
              split at hz
              · rename_i hzo
                rw [if_pos hzo]
                exact fun b => ⟨⟨fun _ => ⟨[_], rfl⟩, (fin _ _ (hz b)).2⟩, (fin _ _ (hz b)).1⟩
              · exact hz.elim
            exact goA_of hz
          · exact (goA_of hy).mono (fun d L' h => ⟨⟨fun hh => absurd hh hal, (fin _ _ h).2⟩, (fin _ _ h).1⟩) (fun _ _ h => h)
theorem gdst_looks {ops : Array Oper} {d : Nat} {want : Bool} (h : gdst ops o = some (some d, want)) : d ∈ o.looksAt ops := by
  unfold gdst at h
  split at h
  · cases h
  · rename_i j b hg
    split at h
    · rename_i p hp
      simp only [Option.some.injEq, Prod.mk.injEq] at h
      have hp' : ops[j]? = some p := by rw [← Array.getElem?_toList]; exact hp
      refine List.mem_append_right _ ?_
      simp [hg, hp', h.1]
    · cases h
theorem aput_other {e : AEnv} {d : Option Tmp} {v : D} {t : Nat} (h : d ≠ some t) : (e.put d v).get t = e.get t := by
  cases d with
  | none => rfl
  | some d => rw [AEnv.get_put, if_neg (fun hh => h (by rw [hh]))]
theorem WA_put {ops : Array Oper} {e : AEnv} {d : Option Tmp} {v : D} {b : Bool} (h : ∀ x, d = some x → x ∉ o.looksAt ops) : WA ops o (e.put d v) b ↔ WA ops o e b := by
  unfold WA
  cases hg : gdst ops o with
  | none => exact Iff.rfl
  | some x =>
    obtain ⟨t, want⟩ := x
    cases t with
    | none => exact Iff.rfl
    | some t =>
      simp only
      rw [aput_other fun hh => h t hh (gdst_looks hg)]
theorem ev_put {ops : Array Oper} {e : AEnv} {d : Option Tmp} {v : D} (h : ∀ x, d = some x → x ∉ o.looksAt ops) : ∀ x ∈ o.op.operands.toList, (e.put d v).ev x = e.ev x := by
  intro x hx
  cases x with
  | tmp t =>
    show (e.put d v).get t = e.get t
    refine aput_other fun hh => h t hh (List.mem_append_left _ ?_)
    rw [List.mem_filterMap]
    exact ⟨.tmp t, hx, rfl⟩
  | const => rfl
  | global => rfl
  | func => rfl
theorem aput_comm (e : AEnv) {c d : Option Tmp} (u v : D) (h : ∀ x, c = some x → d ≠ some x) : (e.put c u).put d v = (e.put d v).put c u := by
  cases c with
  | none => rfl
  | some c =>
    cases d with
    | none => rfl
    | some d =>
      have hne : c ≠ d := fun hh => h c rfl (by rw [hh])
      simp only [AEnv.put, AEnv.mk.injEq, and_true]
      funext i
      simp only [Bool.cond_eq_ite, Nat.beq_eq]
      by_cases h1 : i = c
      · by_cases h2 : i = d
        · exact absurd (h1.symm.trans h2) hne
        · rw [if_neg h2, if_pos h1, if_pos h1]
      · by_cases h2 : i = d
        · rw [if_pos h2, if_neg h1, if_pos h2]
        · rw [if_neg h2, if_neg h1, if_neg h1, if_neg h2]
def CM (ops : Array Oper) (S : Nat → Prop) (j : Nat) (L L' : List Bx) : Prop :=
  pureAt ops.toList j = true ∨ (∃ M, L' = M ++ L) ∨ (S j ∧ ∀ x ∈ L, x.k = .box → x ∈ L')
theorem planRm {P : Program} {ops : Array Oper} {S V : Nat → Prop} {i : Nat} : ∀ (p : Plan) (D : Nat → Prop), PlanOk P ops S V D p → Shut ops D → Rd ops D i → PlanOk P ops S V (ins i D) (rmA i p)
  | [], D, hp, _, hi => absurd hi (hp i)
  | (j, kd) :: p, D, hp, hD, hi => by
    obtain ⟨h1, hS, h2, h3⟩ := hp
    by_cases hij : i = j
    · subst hij
      simp only [rmA, if_true]
      exact h3
    · simp only [rmA, if_neg hij]
      have nTr : ¬ Tr ops j i := fun ht => h1.1 (tr_shut hD ht fun o ho y hy => by
        obtain ⟨o', ho', he⟩ := hi.2
        rw [ho'] at ho; injection ho with ho; subst ho
        exact he y hy)
      have hD' : Shut ops (ins j D) := fun x o hx ho y hy => by
        rcases hx with rfl | hx
        · obtain ⟨o', ho', he⟩ := h1.2
          rw [ho'] at ho
          injection ho with ho
          subst ho
          exact .inr (he y hy)
        · exact .inr (hD x o hx ho y hy)
      have hi' : Rd ops (ins j D) i := ⟨fun hx => hx.elim hij hi.1, by obtain ⟨o, ho, he⟩ := hi.2; exact ⟨o, ho, fun y hy => .inr (he y hy)⟩⟩
      obtain ⟨ki, hki, hsi, hvi⟩ := rd_mem p _ h3 hi'
      have notAll : ¬ ∀ q ∈ p, Tr ops j q.1 := fun hh => nTr (hh _ hki)
      have hsub := rmA_sub i p
      refine ⟨⟨fun hx => hx.elim (fun hh => hij hh.symm) h1.1, by obtain ⟨o, ho, he⟩ := h1.2; exact ⟨o, ho, fun y hy => .inr (he y hy)⟩⟩, hS, ?_, by rw [ins_comm]; exact planRm p (ins j D) h3 hD' hi'⟩
      rcases h2 with h2 | h2 | h2 | h2 | h2 | h2 | h2
      · exact .inl h2
      · exact absurd h2.2 notAll
      · exact absurd h2.2.1 notAll
      · exact absurd h2.2.2.2.1 notAll
      · exact .inr (.inr (.inr (.inr (.inl h2))))
      · exact .inr (.inr (.inr (.inr (.inr (.inl ⟨h2.1, fun q hq => h2.2 q (hsub q hq)⟩)))))
      · refine .inr (.inr (.inr (.inr (.inr (.inr ⟨h2.1, h2.2.1, fun q hq => h2.2.2.1 q (hsub q hq), fun j' hj' => ?_⟩)))))
        rcases hj' with rfl | hj'
        · rcases h2.2.2.1 _ hki with h | ⟨_, h | h | h⟩
          · exact absurd h nTr
          · exact .inr (.inl h.2)
          · exact .inr (.inr (.inl (hsi.2 h)))
          · exact .inr (.inr (.inr (hvi.2 h)))
        · exact h2.2.2.2 j' hj'
def OneA (P : Program) (ops : Array Oper) (S V : Nat → Prop) (Q : AX → AEnv → List Bx → Prop) (D : Nat → Prop) (i ki : Nat) (o : Oper) (rd wr : List Nat) (e : AEnv) (L : List Bx) (K : AEnv → List Bx → Prop) : Prop :=
  (WA ops o e true ∧ ki ≠ 5 ∧ ki ≠ 7 ∧ ∃ d, StillK P o e.ev L d ∧ K (e.put o.dst d) L) ∨
  (WA ops o e true ∧ (ki ≠ 0 ∧ ki ≠ 5 ∧ ki ≠ 7) ∧ ∃ d, StillA P o e.ev L (.pan d) ∧ ∃ M L2, L = M ++ L2 ∧ ∃ e', e'.dfr = e.dfr ∧ Q (.panic d) e' L2) ∨
  (WA ops o e true ∧ ((ki ≠ 0 ∧ ki ≠ 5 ∧ ki ≠ 7) ∨ allocAt ops.toList i = true) ∧ GoA P o e.ev L (fun v L' => (∀ j, D j → Tr ops j i ∨ CM ops S j L L') ∧ K (e.put o.dst v) L') (fun c L' => ∃ e', e'.dfr = e.dfr ∧ Q (.panic c) e' L')) ∨
  (WA ops o e true ∧ ki = 5 ∧ ∃ d x, x ∈ L ∧ x.k = .box ∧ x.b ∉ wr ∧ StillA P o e.ev [x] (.ret d) ∧ K (e.put o.dst d) L) ∨
  (WA ops o e true ∧ ki = 7 ∧ ∃ d m x y, L[m]? = some x ∧ y.b = x.b ∧ x.b ∉ rd ++ wr ∧ GoA P o e.ev [x] (fun v L' => v = d ∧ L' = [y]) (fun _ _ => False) ∧ (storeAt ops.toList i = true ∧ ∀ j, D j → Tr ops j i ∨ pureAt ops.toList j = true ∨ S j ∨ V j) ∧ K (e.put o.dst d) (L.set m y)) ∨
  (WA ops o e false ∧ K (e.put o.dst (.val undef)) L)
theorem firstA {ops : Array Oper} {S V : Nat → Prop} {Q : AX → AEnv → List Bx → Prop} {i : Nat}
    (hap : ∀ x y ox oy, ops[x]? = some ox → ops[y]? = some oy → x ≠ y → ox.apart ops oy = true ∨ Tr ops x y ∨ Tr ops y x) :
    ∀ (p : Plan) (D : Nat → Prop) (rd wr : List Nat) (e : AEnv) (L : List Bx), PlanOk P ops S V D p → runA P ops Q p rd wr e L → (L.map Bx.b).Nodup → Shut ops D → Rd ops D i →
    PlanOk P ops S V (ins i D) (rmA i p) ∧ ∃ o, ops[i]? = some o ∧ ∃ ki, (i, ki) ∈ p ∧ OneA P ops S V Q D i ki o rd wr e L (runA P ops Q (rmA i p) rd wr)
  | [], D, rd, wr, e, L, hp, _, _, _, hi => absurd hi (hp i)
  | (j, kd) :: p, D, rd, wr, e, L, hp, h, hnd, hD, hi => by
    have hp0 := planRm (i := i) ((j, kd) :: p) D hp hD hi
    obtain ⟨h1, hS, h2, h3⟩ := hp
    obtain ⟨oj, hoj, hj⟩ := h
    have hpure : pureAt ops.toList j = pureOp oj.op := by
      unfold pureAt
      rw [Array.getElem?_toList, hoj]
    refine ⟨hp0, ?_⟩
    clear hp0
    by_cases hij : i = j
    · subst hij
      simp only [rmA, if_true]
      refine ⟨oj, hoj, kd, List.mem_cons_self, ?_⟩
      rcases hj with ⟨a, b, d, c, r⟩ | ⟨a, b, d, c, r⟩ | ⟨a, b, r⟩ | ⟨a, b, d, x, hx, hbx, hn, c, r⟩ | ⟨a, b, d, m, x, y, hx, hy, hn, c, r⟩ | ⟨a, r⟩
      · exact .inl ⟨a, by omega, by omega, d, c, r⟩
      · exact .inr (.inl ⟨a, by omega, d, c, r⟩)
      · refine .inr (.inr (.inl ⟨a, .inl (by omega), r.mono (fun v L' h => ⟨fun q hq => ?_, h.2⟩) (fun _ _ h => ⟨e, rfl, h⟩)⟩))
        rcases h2 with h2 | h2 | h2 | h2 | h2 | h2 | h2
        · omega
        · omega
        · exact (h2.2.2 q hq).imp id .inl
        · rcases h2.2.2.2.2 with h2 | ⟨h2, h4⟩
          · exact .inr (.inr (.inl (h.1.1 h2)))
          · rcases h4 q hq with h4 | h4 | h4
            · exact .inl h4
            · exact .inr (.inl h4)
            · exact .inr (.inr (.inr ⟨h4, h.1.2 h2⟩))
        · omega
        · omega
        · omega
      · exact .inr (.inr (.inr (.inl ⟨a, b, d, x, hx, hbx, hn hnd, c, runA_weak _ _ _ _ _ _ _ r (fun b hb => List.mem_cons_of_mem _ hb) fun _ h => h⟩)))
      · refine .inr (.inr (.inr (.inr (.inl ⟨a, b, d, m, x, y, hx, hy, hn hnd, c, ?_, runA_weak _ _ _ _ _ _ _ r (fun _ h => h) fun b hb => List.mem_cons_of_mem _ hb⟩))))
        rcases h2 with h2 | h2 | h2 | h2 | h2 | h2 | h2
        · omega
        · omega
        · omega
        · omega
        · omega
        · omega
        · exact ⟨h2.2.1, h2.2.2.2⟩
      · exact .inr (.inr (.inr (.inr (.inr ⟨a, r⟩))))
    · simp only [rmA, if_neg hij]
      have nTr : ¬ Tr ops j i := fun ht => h1.1 (tr_shut hD ht fun o ho y hy => by
        obtain ⟨o', ho', he⟩ := hi.2
        rw [ho'] at ho; injection ho with ho; subst ho
        exact he y hy)
      have nTr' : ¬ Tr ops i j := fun ht => hi.1 (tr_shut hD ht fun o ho y hy => by
        obtain ⟨o', ho', he⟩ := h1.2
        rw [ho'] at ho; injection ho with ho; subst ho
        exact he y hy)
      have hD' : Shut ops (ins j D) := fun x o hx ho y hy => by
        rcases hx with rfl | hx
        · obtain ⟨o', ho', he⟩ := h1.2
          rw [ho'] at ho
          injection ho with ho
          subst ho
          exact .inr (he y hy)
        · exact .inr (hD x o hx ho y hy)
      have hi' : Rd ops (ins j D) i := ⟨fun hx => hx.elim hij hi.1, by obtain ⟨o, ho, he⟩ := hi.2; exact ⟨o, ho, fun y hy => .inr (he y hy)⟩⟩
      obtain ⟨ki0, hki0, hsi0, hvi0⟩ := rd_mem p _ h3 hi'
      have notAll : ¬ ∀ q ∈ p, Tr ops j q.1 := fun hh => nTr (hh _ hki0)
      have k0 : kd = 0 ∨ (kd = 5 ∧ pureAt ops.toList j = false) ∨ (kd = 6 ∧ ∀ q ∈ p, Tr ops j q.1 ∨ newAt P ops.toList q.1 = true) ∨ (kd = 7 ∧ ∀ q ∈ p, Tr ops j q.1 ∨ (allocAt ops.toList q.1 = false ∧ ((q.2 = 0 ∧ pureAt ops.toList q.1 = true) ∨ q.2 = 5 ∨ q.2 = 7))) := by
        rcases h2 with h2 | h2 | h2 | h2 | h2 | h2 | h2
        · exact .inl h2
        · exact absurd h2.2 notAll
        · exact absurd h2.2.1 notAll
        · exact absurd h2.2.2.2.1 notAll
        · exact .inr (.inl h2)
        · exact .inr (.inr (.inl h2))
        · exact .inr (.inr (.inr ⟨h2.1, h2.2.2.1⟩))
      have n6 : kd = 6 → newAt P ops.toList i = true := fun hk => by
        rcases k0 with h | h | h | h
        · omega
        · omega
        · exact (h.2 _ hki0).resolve_left nTr
        · omega
      have apt : ∀ oi, ops[i]? = some oi → oj.apart ops oi = true := by
        intro oi hoi
        rcases hap j i oj oi hoj hoi (fun hh => hij hh.symm) with h | h | h
        · exact h
        · exact absurd h nTr
        · exact absurd h nTr'
      have apt3 : ∀ oi, ops[i]? = some oi → ∀ x, oi.dst = some x → x ∉ oj.looksAt ops := fun oi hoi => (Oper.apart_spec (apt oi hoi)).2.2
      have step : ∀ dj rd1, runA P ops Q p rd1 wr (e.put oj.dst dj) L → (∀ b ∈ rd, b ∈ rd1) → (∀ (oi : Oper) (di : _root_.Go.V.D) (q : Plan) (L' : List Bx), (L' = L ∨ CM ops S j L L' ∨ ((L.map Bx.b).Nodup ∧ (pureAt ops.toList j = true ∨ S j ∨ V j) ∧ ∃ m x y, L[m]? = some x ∧ y.b = x.b ∧ x.b ∉ rd1 ++ wr ∧ L' = L.set m y)) → ops[i]? = some oi → runA P ops Q q rd1 wr ((e.put oi.dst di).put oj.dst dj) L' → runA P ops Q ((j, kd) :: q) rd wr (e.put oi.dst di) L') →
          ∃ o, ops[i]? = some o ∧ ∃ ki, (i, ki) ∈ (j, kd) :: p ∧ OneA P ops S V Q D i ki o rd wr e L (runA P ops Q ((j, kd) :: rmA i p) rd wr) := by
        intro dj rd1 hr hrd back
        obtain ⟨hq, oi, hoi, ki, hki, hres⟩ := firstA hap p (ins j D) rd1 wr (e.put oj.dst dj) L h3 hr hnd hD' hi'
        obtain ⟨a1, a2, a3⟩ := Oper.apart_spec (apt oi hoi)
        refine ⟨oi, hoi, ki, List.mem_cons_of_mem _ hki, ?_⟩
        have pc : ∀ d, (e.put oi.dst d).put oj.dst dj = (e.put oj.dst dj).put oi.dst d := fun d => aput_comm e d dj (fun x hx hh => a2 x hh hx)
        rcases hres with ⟨w, k, k', d, s, r⟩ | ⟨w, k, d, s, r⟩ | ⟨w, k, r⟩ | ⟨w, k, d, x, hx, hbx, hn, s, r⟩ | ⟨w, k, d, m, x, y, hx, hy, hn, s, t, r⟩ | ⟨w, r⟩
        · exact .inl ⟨(WA_put a1).1 w, k, k', d, s.congr (ev_put a1), back oi d _ _ (.inl rfl) hoi (by rw [pc]; exact r)⟩
        · obtain ⟨M, L2, hM, e', he', hq'⟩ := r
          exact .inr (.inl ⟨(WA_put a1).1 w, k, d, s.congr (ev_put a1), M, L2, hM, e', he'.trans (AEnv.dfr_put ..), hq'⟩)
        · refine .inr (.inr (.inl ⟨(WA_put a1).1 w, k, (r.congr (ev_put a1)).mono ?_ ?_⟩))
          · rintro d L' ⟨q1, q2⟩
            exact ⟨fun j' hj' => q1 j' (.inr hj'), back oi d _ _ (.inr (.inl ((q1 j (.inl rfl)).resolve_left nTr))) hoi (by rw [pc]; exact q2)⟩
          · rintro c L' ⟨e', he', hq'⟩
            exact ⟨e', he'.trans (AEnv.dfr_put ..), hq'⟩
        · exact .inr (.inr (.inr (.inl ⟨(WA_put a1).1 w, k, d, x, hx, hbx, hn, s.congr (ev_put a1), back oi d _ _ (.inl rfl) hoi (by rw [pc]; exact r)⟩)))
        · refine .inr (.inr (.inr (.inr (.inl ⟨(WA_put a1).1 w, k, d, m, x, y, hx, hy, fun hh => hn ?_, s.congr (ev_put a1), ⟨t.1, fun j' hj' => t.2 j' (.inr hj')⟩, back oi d _ _ (.inr (.inr ⟨hnd, (t.2 j (.inl rfl)).resolve_left nTr, m, x, y, hx, hy, hn, rfl⟩)) hoi (by rw [pc]; exact r)⟩))))
          rcases List.mem_append.1 hh with h | h
          · exact List.mem_append_left _ (hrd _ h)
          · exact List.mem_append_right _ h
        · exact .inr (.inr (.inr (.inr (.inr ⟨(WA_put a1).1 w, back oi _ _ _ (.inl rfl) hoi (by rw [pc]; exact r)⟩))))
      rcases hj with ⟨a, b, d, c, r⟩ | ⟨a, b, d, c, r⟩ | ⟨a, b, r⟩ | ⟨a, b, d, x, hx, hbx, hn, c, r⟩ | ⟨a, b, d, m, x, y, hx, hy, hn, c, r⟩ | ⟨a, r⟩
      · refine step d rd r (fun _ h => h) fun oi di q L' hl hoi hr => ⟨oj, hoj, .inl ⟨(WA_put (apt3 oi hoi)).2 a, b, d, (c.to ?_).congr fun x hx => (ev_put (apt3 oi hoi) x hx).symm, hr⟩⟩
        rcases hl with hl | (hl | hl | hl) | ⟨_, hl | hl | hl, _⟩
        · exact .inl hl
        · rw [hpure] at hl; exact .inr (.inl hl)
        · exact .inr (.inr hl)
        · have := hS.1.1 hl.1; omega
        · rw [hpure] at hl; exact .inr (.inl hl)
        · have := hS.1.1 hl; omega
        · have := hS.2.1 hl; omega
      · rcases b with b | b
        · omega
        · -- it panics, and a block is made ahead
          have hn := n6 b
          obtain ⟨M, L2, hM, e', he', hq'⟩ := r
          obtain ⟨oi, hoi, _⟩ := hi.2
          obtain ⟨t, hgu, hop, hzb⟩ : ∃ t, oi.guard = none ∧ oi.op = .alloc t ∧ zbT P t = true := by
            unfold newAt at hn
            rw [Array.getElem?_toList, hoi] at hn
            simp only at hn
            split at hn
            · rename_i t hg ho; exact ⟨t, hg, ho, hn⟩
            · cases hn
          have hfk : allocAt ops.toList i = true := by
            unfold allocAt
            rw [Array.getElem?_toList, hoi]
            simp only [hop]
          refine ⟨oi, hoi, ki0, List.mem_cons_of_mem _ hki0, .inr (.inr (.inl ⟨?_, .inr hfk, ?_⟩))⟩
          · have hg : gdst ops oi = none := by unfold gdst; rw [hgu]
            simp only [WA, hg]
          · have hz : aopK P false oi.type oi.op e.ev L (fun v L' => (∀ j', D j' → Tr ops j' i ∨ CM ops S j' L L') ∧ runA P ops Q ((j, kd) :: rmA i p) rd wr (e.put oi.dst v) L') (fun c L' => ∃ e', e'.dfr = e.dfr ∧ Q (.panic c) e' L') := by
              rw [hop]
              simp only [aopK, cond_false]
              unfold zbT at hzb
              unfold zT
              split at hzb
              · rename_i inf hinf
                split at hzb
                · rename_i z hzz
                  simp only [hinf, hzz, hzb, cond_true]
                  intro bb
                  refine ⟨fun j' _ => .inr (.inr (.inl ⟨[_], rfl⟩)), oj, hoj, .inr (.inl ⟨(WA_put (apt3 oi hoi)).2 a, .inr b, d, (still_cons c [_]).congr fun x hx => (ev_put (apt3 oi hoi) x hx).symm, _ :: M, L2, by rw [hM]; rfl, e', he'.trans (AEnv.dfr_put ..).symm, hq'⟩)⟩
                · cases hzb
              · cases hzb
            exact goA_of hz
      · omega
      · refine step d (x.b :: rd) r (fun _ h => List.mem_cons_of_mem _ h) fun oi di q L' hl hoi hr => ⟨oj, hoj, .inr (.inr (.inr (.inl ⟨(WA_put (apt3 oi hoi)).2 a, b, d, x, ?_, hbx, fun _ => hn hnd, c.congr fun x hx => (ev_put (apt3 oi hoi) x hx).symm, hr⟩)))⟩
        rcases hl with rfl | (hl | ⟨M, rfl⟩ | hl) | ⟨_, _, m, x', y, h1', h2', h3', rfl⟩
        · exact hx
        · rcases k0 with hk | hk | hk | hk
          · omega
          · rw [hk.2] at hl; cases hl
          · omega
          · omega
        · exact List.mem_append_right _ hx
        · exact hl.2 x hx hbx
        · have hne : x ≠ x' := fun hh => h3' (by rw [hh]; simp)
          obtain ⟨n, hn', hxn⟩ := List.mem_iff_getElem.1 hx
          refine List.mem_of_getElem? (i := n) ?_
          rw [List.getElem?_set]
          rw [if_neg]
          · rw [List.getElem?_eq_getElem hn', hxn]
          · intro hh
            subst hh
            rw [List.getElem?_eq_getElem hn', hxn] at h1'
            injection h1' with h1'
            exact hne h1'
      · -- a store that floats
        have hk7 := (k0.resolve_left (by omega)).resolve_left (by omega) |>.resolve_left (by omega)
        have hxn := hn hnd
        have hnd1 : ((L.set m y).map Bx.b).Nodup := by rw [map_set_b hx hy]; exact hnd
        obtain ⟨hq, oi, hoi, ki, hki, hres⟩ := firstA hap p (ins j D) rd (x.b :: wr) (e.put oj.dst d) (L.set m y) h3 r hnd1 hD' hi'
        obtain ⟨a1, a2, a3⟩ := Oper.apart_spec (apt oi hoi)
        obtain ⟨hna, hkk⟩ := (hk7.2 _ hki).resolve_left nTr
        refine ⟨oi, hoi, ki, List.mem_cons_of_mem _ hki, ?_⟩
        have pc : ∀ di, (e.put oi.dst di).put oj.dst d = (e.put oj.dst d).put oi.dst di := fun di => aput_comm e di d (fun x hx hh => a2 x hh hx)
        have back : ∀ (di : _root_.Go.V.D) (q : Plan) (L' : List Bx), L'[m]? = some x → runA P ops Q q rd (x.b :: wr) ((e.put oi.dst di).put oj.dst d) (L'.set m y) → runA P ops Q ((j, kd) :: q) rd wr (e.put oi.dst di) L' := fun di q L' hL hr =>
          ⟨oj, hoj, .inr (.inr (.inr (.inr (.inl ⟨(WA_put (apt3 oi hoi)).2 a, b, d, m, x, y, hL, hy, fun _ => hxn, c.congr fun x hx => (ev_put (apt3 oi hoi) x hx).symm, hr⟩))))⟩
        have hm : m < L.length := (List.getElem?_eq_some_iff.1 hx).1
        rcases hres with ⟨w, k, k', di, s, r⟩ | ⟨w, k, di, s, r⟩ | ⟨w, k, r⟩ | ⟨w, k, di, xi, hxi, hbi, hni, s, r⟩ | ⟨w, k, di, mi, xi, yi, hxi, hyi, hni, s, t, r⟩ | ⟨w, r⟩
        · have hpi : pureOp oi.op = true := by
            rcases hkk with h | h | h
            · have := h.2
              unfold pureAt at this
              rw [Array.getElem?_toList, hoi] at this
              exact this
            · exact absurd h k
            · exact absurd h k'
          exact .inl ⟨(WA_put a1).1 w, k, k', di, (s.to (.inr (.inl hpi))).congr (ev_put a1), back di _ _ hx (by rw [pc]; exact r)⟩
        · rcases hkk with h | h | h
          · exact absurd h.1 k.1
          · exact absurd h k.2.1
          · exact absurd h k.2.2
        · have k := k.resolve_right (by rw [hna]; simp)
          rcases hkk with h | h | h
          · exact absurd h.1 k.1
          · exact absurd h k.2.1
          · exact absurd h k.2.2
        · refine .inr (.inr (.inr (.inl ⟨(WA_put a1).1 w, k, di, xi, ?_, hbi, fun hh => hni (List.mem_cons_of_mem _ hh), s.congr (ev_put a1), back di _ _ hx (by rw [pc]; exact r)⟩)))
          obtain ⟨n, hn', hin⟩ := List.mem_iff_getElem.1 hxi
          rw [List.getElem_set] at hin
          split at hin
          · exact absurd (by rw [← hin, hy]; exact List.mem_cons_self) hni
          · rw [← hin]; exact List.getElem_mem _
        · rw [List.getElem?_set] at hxi
          split at hxi
          · rename_i hmm
            subst hmm
            injection hxi with hxi
            subst hxi
            exact absurd (by rw [hy]; exact List.mem_append_right _ List.mem_cons_self) hni
          · rename_i hmm
            refine .inr (.inr (.inr (.inr (.inl ⟨(WA_put a1).1 w, k, di, mi, xi, yi, hxi, hyi, fun hh => hni ?_, s.congr (ev_put a1), ⟨t.1, fun j' hj' => t.2 j' (.inr hj')⟩, back di _ _ ?_ ?_⟩))))
            · rcases List.mem_append.1 hh with h | h
              · exact List.mem_append_left _ h
              · exact List.mem_append_right _ (List.mem_cons_of_mem _ h)
            · rw [List.getElem?_set, if_neg (fun h => hmm h.symm)]; exact hx
            · rw [pc, List.set_comm _ _ (fun h => hmm h.symm)]; exact r
        · exact .inr (.inr (.inr (.inr (.inr ⟨(WA_put a1).1 w, back _ _ _ hx (by rw [pc]; exact r)⟩))))
      · exact step (.val undef) rd r (fun _ h => h) fun oi di q L' hl hoi hr => ⟨oj, hoj, .inr (.inr (.inr (.inr (.inr ⟨(WA_put (apt3 oi hoi)).2 a, hr⟩))))⟩
theorem ons_mem : ∀ (l : List Edge) (y : Nat), y ∈ ons l ↔ ∃ e ∈ l, Region.binds .any e = true ∧ e.on = y
  | [], y => by simp [ons]
  | e :: l, y => by
    have hb : bindsB e = Region.binds .any e := by
      unfold bindsB Region.binds
      cases e.ground <;> rfl
    simp only [ons, Bool.cond_eq_ite, hb]
    split
    · rename_i h
      simp only [List.mem_cons, ons_mem l y]
      constructor
      · rintro (rfl | ⟨e', h1, h2⟩)
        · exact ⟨e, .inl rfl, h, rfl⟩
        · exact ⟨e', .inr h1, h2⟩
      · rintro ⟨e', rfl | h1, h2, h3⟩
        · exact .inl h3.symm
        · exact .inr ⟨e', h1, h2, h3⟩
    · rename_i h
      simp only [ons_mem l y]
      constructor
      · rintro ⟨e', h1, h2⟩; exact ⟨e', List.mem_cons_of_mem _ h1, h2⟩
      · rintro ⟨e', h1, h2, h3⟩
        rcases List.mem_cons.1 h1 with rfl | h1
        · exact absurd h2 h
        · exact ⟨e', h1, h2, h3⟩
def Ls (listed : Array Bool) : Nat → Prop := fun i => listed.getD i false = true
theorem ready_rd {ops : Array Oper} {listed : Array Bool} (hs : listed.size = ops.size) (i : Nat) : i ∈ Region.ready .any ops listed ↔ Rd ops (Ls listed) i := by
  rw [mem_ready]
  constructor
  · rintro ⟨h1, o, ho, he⟩
    refine ⟨fun hh => ?_, o, ho, fun y hy => ?_⟩
    · have hlt : i < listed.size := by rw [hs]; exact (Array.getElem?_eq_some_iff.1 ho).1
      simp only [Ls, Array.getD_eq_getD_getElem?, Array.getElem?_eq_getElem hlt, Option.getD_some] at h1 hh
      rw [h1] at hh
      cases hh
    · obtain ⟨e, h2, h3, h4⟩ := (ons_mem _ _).1 hy
      rw [← h4]
      exact he e (by simpa using h2) h3
  · rintro ⟨h1, o, ho, he⟩
    refine ⟨?_, o, ho, fun e h2 h3 => he e.on ((ons_mem _ _).2 ⟨e, by simpa using h2, h3, rfl⟩)⟩
    have hlt : i < listed.size := by rw [hs]; exact (Array.getElem?_eq_some_iff.1 ho).1
    simp only [Ls, Array.getD_eq_getD_getElem?, Array.getElem?_eq_getElem hlt, Option.getD_some] at h1 ⊢
    simpa using h1
theorem ls_set {listed : Array Bool} {i : Nat} (hi : i < listed.size) : Ls (listed.setIfInBounds i true) = ins i (Ls listed) := by
  funext x
  simp only [Ls, ins, Array.getD_eq_getD_getElem?, Array.getElem?_setIfInBounds]
  by_cases h : i = x
  · subst h; simp [hi]
  · have h2 : ¬ x = i := fun hh => h hh.symm
    simp [h, h2]
theorem nodup_le : ∀ (n : Nat) (d : List Nat), d.Nodup → (∀ x ∈ d, x < n) → d.length ≤ n
  | 0, [], _, _ => Nat.le_refl _
  | 0, x :: d, _, h => absurd (h x (by simp)) (by omega)
  | n + 1, d, hd, h => by
    have h1 := nodup_le n (d.erase n) (hd.erase n) (fun x hx => by
      have h2 := (hd.mem_erase_iff).1 hx
      have := h x h2.2
      have := h2.1
      omega)
    by_cases hm : n ∈ d
    · rw [List.length_erase_of_mem hm] at h1; omega
    · rw [List.erase_of_not_mem hm] at h1; omega
theorem dst_mem : ∀ {l : List Oper}, o ∈ l → ∀ x, o.dst = some x → x ∈ dstsO l
  | q :: l, h, x, hx => by
    rcases List.mem_cons.1 h with rfl | h
    · exact dstsO_mem hx
    · exact dstsO_tail (dst_mem h x hx)
theorem out_wp {a : Act} {w : World} {k : Value → World → Prop} {kp : List PanicEntry → World → Prop} {next : Act → World → Prop} {Q : Exit → Act → World → Prop}
    (h : Out P w k kp ((execOp a.eval o).run P w)) (hk : ∀ v w', k v w' → next (a.put o.dst v) w') (hp : ∀ c w', kp c w' → Q (.panic c) a w') : o.wp P a w next Q := by
  unfold Oper.wp
  generalize (execOp a.eval o).run P w = r at h
  cases h with
  | value v w' h => rw [Oper.upon_value]; exact hk _ _ h
  | skip w' h => rw [Oper.upon_skip]; exact hk _ _ h
  | enter g args h =>
    rw [Oper.upon_enter]
    refine h.mono fun x w' hx => ?_
    cases x with
    | returned v => exact hk _ _ hx
    | panicked c => exact hp _ _ hx
    | outgrown => exact hx.elim
  | panic v w' h => rw [Oper.upon_panic]; exact hp _ w' h
theorem WA_wanted {ops : Array Oper} {n : Nat} {F : Nat → Prop} {w : World} {e : AEnv} {a : Act} {b : Bool} (ha : AAgree F w n e a) (h : WA ops o e b) : Region.wanted o (yielded ops a.tmps) = b := by
  unfold WA at h
  cases hg : gdst ops o with
  | none =>
    simp only [hg] at h
    rw [h]; simp [Region.wanted, gdst_none hg]
  | some x =>
    obtain ⟨t, want⟩ := x
    cases t with
    | none => simp only [hg] at h
    | some t =>
      simp only [hg] at h
      obtain ⟨v, h1, h2⟩ := h
      have h3 := ha.tmp t
      rw [h1] at h3
      have h4 := (rep_val_iff.1 h3).1
      have h5 := wanted_of hg ha.agree
      have h6 : (envOf a).get t = v := h4
      rw [h6] at h5
      cases b with
      | true => exact h5.2 (h2.1 rfl)
      | false =>
        rw [Bool.eq_false_iff]
        intro hh
        have := h2.2 (h5.1 hh)
        cases this
theorem any_of_run {ops : Array Oper} {S V : Nat → Prop} {Q : AX → AEnv → List Bx → Prop} {n : Nat} (hl : lt n (dstsO ops.toList))
    (hap : ∀ x y ox oy, ops[x]? = some ox → ops[y]? = some oy → x ≠ y → ox.apart ops oy = true ∨ Tr ops x y ∨ Tr ops y x) {F0 : Nat → Prop} {L0 : List Bx} {w0 : World} {a0 : Act} {dfr0 : List Df} {Qa : Exit → Act → World → Prop}
    (hn : ∀ ae' L' F' a' w', Q .normal ae' L' → Ev F0 L0 w0 F' L' w' → AW F' L' w' → AAgree F' w' n ae' a' → ASame (dstsO ops.toList) a0 a' → a'.defers = a0.defers → Qa .normal a' w')
    (hx : ∀ d ae' L' F' a' w' v, Q (.panic d) ae' L' → Ev F0 L0 w0 F' L' w' → AW F' L' w' → Rep F' w' d v → DReps F' w' ae'.dfr a'.defers → ASame (dstsO ops.toList) a0 a' → Qa (.panic [{ v := v, recovered := false }]) a' w') :
    ∀ (fuel : Nat) (listed : Array Bool) (p : Plan) (e : AEnv) (L : List Bx) (F : Nat → Prop) (w : World) (a : Act), listed.size = ops.size → (∃ d : List Nat, d.Nodup ∧ (∀ i, i ∈ d ↔ Ls listed i) ∧ d.length + fuel = ops.size) →
    ∀ (rd wr : List Nat), PlanOk P ops S V (Ls listed) p → runA P ops Q p rd wr e L → AW F L w → AAgree F w n e a → Shut ops (Ls listed) → Ev F0 L0 w0 F L w → ASame (dstsO ops.toList) a0 a → a.defers = a0.defers → wpAny P .any ops Qa fuel listed a w := by
  have fin : ∀ (listed : Array Bool) (p : Plan) (e : AEnv) (L : List Bx) (F : Nat → Prop) (w : World) (a : Act), ∀ (rd wr : List Nat), listed.size = ops.size → PlanOk P ops S V (Ls listed) p → runA P ops Q p rd wr e L → AW F L w → AAgree F w n e a → Ev F0 L0 w0 F L w → ASame (dstsO ops.toList) a0 a → a.defers = a0.defers →
      Region.ready .any ops listed = [] → Qa .normal a w := by
    intro listed p e L F w a rd wr hs hp hr aw ha he hse hd hre
    have hp0 : p = [] := by
      cases p with
      | nil => rfl
      | cons q p =>
        have := (ready_rd hs q.1).2 hp.1
        rw [hre] at this
        cases this
    subst hp0
    exact hn e L F a w hr he aw ha hse hd
  intro fuel
  induction fuel with
  | zero =>
    intro listed p e L F w a hs hc rd wr hp hr aw ha hD he hse hd
    have hre : Region.ready .any ops listed = [] := by
      rw [List.eq_nil_iff_forall_not_mem]
      intro i hi
      obtain ⟨h1, o, ho, _⟩ := (ready_rd hs i).1 hi
      obtain ⟨d, hnd, hd, hlen⟩ := hc
      have hlt : i < ops.size := (Array.getElem?_eq_some_iff.1 ho).1
      have hsub : ∀ x ∈ i :: d, x ∈ List.range ops.size := by
        intro x hx
        rw [List.mem_range]
        rcases List.mem_cons.1 hx with rfl | hx
        · exact hlt
        · have := (hd x).1 hx
          rcases Nat.lt_or_ge x ops.size with h | h
          · exact h
          · simp [Ls, Array.getD_eq_getD_getElem?, Array.getElem?_eq_none (by omega : listed.size ≤ x)] at this
      have hnd' : (i :: d).Nodup := List.nodup_cons.2 ⟨fun hh => h1 ((hd i).1 hh), hnd⟩
      have := nodup_le ops.size (i :: d) hnd' (fun x hx => List.mem_range.1 (hsub x hx))
      simp at this
      omega
    exact ⟨hre, fin listed p e L F w a rd wr hs hp hr aw ha he hse hd hre⟩
  | succ fuel ih =>
    intro listed p e L F w a hs hc rd wr hp hr aw ha hD he hse hd
    refine ⟨fin listed p e L F w a rd wr hs hp hr aw ha he hse hd, fun i hi => ?_⟩
    have hi' := (ready_rd hs i).1 hi
    obtain ⟨hq, o, ho, ki, hki, hres⟩ := firstA hap p _ rd wr e L hp hr aw.nodup hD hi'
    have hlt : i < listed.size := by rw [hs]; exact (Array.getElem?_eq_some_iff.1 ho).1
    have hmem : o ∈ ops.toList := List.mem_of_getElem? (show ops.toList[i]? = some o by rw [Array.getElem?_toList]; exact ho)
    have hdm := dst_mem hmem
    have hdi : ∀ x, o.dst = some x → x < n := fun x hx => hl x (hdm x hx)
    have next : ∀ d L' F' v w', runA P ops Q (rmA i p) rd wr (e.put o.dst d) L' → Ev F L w F' L' w' → AW F' L' w' → Rep F' w' d v → wpAny P .any ops Qa fuel (listed.setIfInBounds i true) (a.put o.dst v) w' := by
      intro d L' F' v w' hrun he' haw' hrep
      refine ih _ (rmA i p) _ L' F' w' _ (by simpa using hs) ?_ rd wr (by rw [ls_set hlt]; exact hq) hrun haw' ((ha.move he' aw).put hdi hrep) ?_ (he.trans he') (hse.trans (asame_put ha hdi v _ hdm)) (by rw [← hd]; cases o.dst <;> rfl)
      · obtain ⟨d, hnd, hd', hlen⟩ := hc
        refine ⟨i :: d, List.nodup_cons.2 ⟨fun hh => hi'.1 ((hd' i).1 hh), hnd⟩, fun x => ?_, by simp; omega⟩
        rw [ls_set hlt]
        simp only [List.mem_cons, hd', ins]
      · rw [ls_set hlt]
        intro x ox hx hox y hy
        rcases hx with rfl | hx
        · obtain ⟨o', ho', he⟩ := hi'.2
          rw [ho'] at hox; injection hox with hox; subst hox
          exact .inr (he y hy)
        · exact .inr (hD x ox hx hox y hy)
    have evx : ∀ x ∈ o.op.operands.toList, Rep F w (e.ev x) (a.eval x) := fun x _ => ha.ev x
    unfold wpOp
    simp only [ho]
    rcases hres with ⟨hw, _, _, d, hv, hr⟩ | ⟨hw, _, d, hv, M, L2, hM, e', he', hrq⟩ | ⟨hw, _, hr⟩ | ⟨hw, _, d, x, hx5, _, _, hv, hr⟩ | ⟨hw, _, d, m, x, y, hx7, _, _, hv, _, hr⟩ | ⟨hw, hr⟩
    · rw [if_pos (WA_wanted ha hw)]
      left
      refine out_wp (hv.1 F w a.eval aw evx) ?_ ?_
      · rintro v w' ⟨d', F', L', ⟨h1, rfl⟩, h2, h3, h4⟩
        injection h1 with h1; subst h1
        exact next _ _ F' v w' hr h2 h3 h4
      · rintro c w' ⟨d', F', L', v, ⟨h1, rfl⟩, _⟩
        cases h1
    · rw [if_pos (WA_wanted ha hw)]
      left
      refine out_wp (hv F w a.eval aw evx) ?_ ?_
      · rintro v w' ⟨d', F', L', ⟨h1, rfl⟩, _⟩
        cases h1
      · rintro c w' ⟨d', F', L', v, ⟨h1, rfl⟩, rfl, h2, h3, h4⟩
        injection h1 with h1; subst h1
        subst hM
        have h3' : AW F' L2 w' := (h3.perm List.perm_append_comm).left
        have h2' : Ev F (M ++ L2) w F' L2 w' := ⟨h2.os, h2.tape, h2.output, h2.size, h2.block, h2.grow, h2.old, fun x hx hl => h2.own x (List.mem_append_right _ hx) hl, h2.drawn⟩
        exact hx _ _ _ F' a w' v hrq (he.trans h2') h3' h4 (by rw [he']; exact ha.dfr.keep (h2.keeps aw)) hse
    · rw [if_pos (WA_wanted ha hw)]
      left
      refine out_wp (hr F w a.eval aw evx) ?_ ?_
      · rintro v w' ⟨d', F', L', h1, h2, h3, h4⟩
        exact next _ _ F' v w' h1.2 h2 h3 h4
      · rintro c w' ⟨d', F', L', v, ⟨e', he', h1⟩, rfl, h2, h3, h4⟩
        exact hx _ _ _ F' a w' v h1 (he.trans h2) h3 h4 (by rw [he']; exact ha.dfr.keep (h2.keeps aw)) hse
    · rw [if_pos (WA_wanted ha hw)]
      left
      refine out_wp ((still_mem hv hx5) F w a.eval aw evx) ?_ ?_
      · rintro v w' ⟨d', F', L', ⟨h1, rfl⟩, h2, h3, h4⟩
        injection h1 with h1; subst h1
        exact next _ _ F' v w' hr h2 h3 h4
      · rintro c w' ⟨d', F', L', v, ⟨h1, rfl⟩, _⟩
        cases h1
    · rw [if_pos (WA_wanted ha hw)]
      left
      refine out_wp ((goA_mem hv hx7) F w a.eval aw evx) ?_ ?_
      · rintro v w' ⟨d', F', L', ⟨rfl, rfl⟩, h2, h3, h4⟩
        exact next _ _ F' v w' hr h2 h3 h4
      · rintro c w' ⟨d', F', L', v, h1, _⟩
        exact h1.elim
    · rw [if_neg (by rw [WA_wanted ha hw]; simp)]
      exact next (.val undef) L F undef w hr (Ev.refl ..) aw (rep_val trivial)
theorem subL_of : ∀ (L D : List Nat), (∀ y ∈ L, y ∈ D) → subL L D = true
  | [], _, _ => rfl
  | a :: L, D, h => by
    simp only [subL, Bool.cond_eq_ite]
    rw [if_pos ((mem_iff D a).2 (h a (by simp)))]
    exact subL_of L D fun y hy => h y (by simp [hy])
theorem rdy_mem (D : List Nat) : ∀ (l : List Oper) (k i : Nat), i ∈ rdy l k D ↔ ∃ o, k ≤ i ∧ l[i - k]? = some o ∧ i ∉ D ∧ ∀ y ∈ ons o.after.toList, y ∈ D
  | [], k, i => by simp [rdy]
  | o :: r, k, i => by
    have ih := rdy_mem D r (k + 1) i
    have step : (∃ o', k + 1 ≤ i ∧ r[i - (k + 1)]? = some o' ∧ i ∉ D ∧ ∀ y ∈ ons o'.after.toList, y ∈ D) ↔ (∃ o', k < i ∧ (o :: r)[i - k]? = some o' ∧ i ∉ D ∧ ∀ y ∈ ons o'.after.toList, y ∈ D) := by
      constructor
      · rintro ⟨o', h1, h2, h3⟩
        refine ⟨o', h1, ?_, h3⟩
        rw [show i - k = (i - (k + 1)) + 1 by omega]
        exact h2
      · rintro ⟨o', h1, h2, h3⟩
        refine ⟨o', h1, ?_, h3⟩
        rw [show i - k = (i - (k + 1)) + 1 by omega] at h2
        exact h2
    simp only [rdy, Bool.cond_eq_ite]
    split
    · rename_i hm
      have hm := (mem_iff D k).1 hm
      rw [ih, step]
      constructor
      · rintro ⟨o', h1, h2⟩; exact ⟨o', by omega, h2⟩
      · rintro ⟨o', h1, h2, h3, h4⟩
        rcases Nat.lt_or_ge k i with h | h
        · exact ⟨o', h, h2, h3, h4⟩
        · have : i = k := by omega
          subst this
          exact absurd hm h3
    · rename_i hm
      have hm : k ∉ D := fun hh => hm ((mem_iff D k).2 hh)
      split
      · rename_i hsb
        rw [List.mem_cons, ih, step]
        constructor
        · rintro (rfl | ⟨o', h1, h2⟩)
          · exact ⟨o, Nat.le_refl _, by simp, hm, subL_spec _ _ hsb⟩
          · exact ⟨o', by omega, h2⟩
        · rintro ⟨o', h1, h2, h3⟩
          rcases Nat.lt_or_ge k i with h | h
          · exact .inr ⟨o', h, h2, h3⟩
          · exact .inl (by omega)
      · rename_i hsb
        rw [ih, step]
        constructor
        · rintro ⟨o', h1, h2⟩; exact ⟨o', by omega, h2⟩
        · rintro ⟨o', h1, h2, h3, h4⟩
          rcases Nat.lt_or_ge k i with h | h
          · exact ⟨o', h, h2, h3, h4⟩
          · have : i = k := by omega
            subst this
            simp at h2
            subst h2
            exact absurd (subL_of _ _ h4) hsb
theorem rdy_rd {ops : Array Oper} (D : List Nat) (i : Nat) : i ∈ rdy ops.toList 0 D ↔ Rd ops (· ∈ D) i := by
  rw [rdy_mem]
  constructor
  · rintro ⟨o, _, h2, h3, h4⟩; exact ⟨h3, o, by simpa using h2, h4⟩
  · rintro ⟨h1, o, h2, h3⟩; exact ⟨o, Nat.zero_le _, by simpa using h2, h1, h3⟩
theorem ins_cons (i : Nat) (D : List Nat) : ins i (· ∈ D) = (· ∈ i :: D) := by
  funext x
  simp [ins]
def TOk (ops : Array Oper) (T : List (List Nat)) : Prop := ∀ i, ∀ j ∈ T.getD i [], Tr ops j i
theorem aheadB_ok {ops : Array Oper} {T : List (List Nat)} (hT : TOk ops T) (i : Nat) : ∀ (p : Plan), aheadB T i p = true → ∀ q ∈ p, Tr ops i q.1
  | (j, kd) :: p, h, q, hq => by
    simp only [aheadB, Bool.and_eq_true] at h
    rcases List.mem_cons.1 hq with rfl | hq
    · exact hT _ _ ((mem_iff _ _).1 h.1)
    · exact aheadB_ok hT i p h.2 q hq
theorem pureL_ok {ops : List Oper} {Ti : List Nat} : ∀ (E : List Nat), pureL ops Ti E = true → ∀ j ∈ E, j ∈ Ti ∨ pureAt ops j = true
  | k :: E, h, j, hj => by
    simp only [pureL, Bool.and_eq_true, Bool.or_eq_true] at h
    rcases List.mem_cons.1 hj with rfl | hj
    · exact h.1.imp (mem_iff _ _).1 id
    · exact pureL_ok E h.2 j hj
theorem pureL5_ok {ops : List Oper} {Ti F : List Nat} : ∀ (E : List Nat), pureL5 ops Ti F E = true → ∀ j ∈ E, j ∈ Ti ∨ pureAt ops j = true ∨ j ∈ F
  | k :: E, h, j, hj => by
    simp only [pureL5, Bool.and_eq_true, Bool.or_eq_true] at h
    rcases List.mem_cons.1 hj with rfl | hj
    · exact h.1.imp (mem_iff _ _).1 (Or.imp id (mem_iff _ _).1)
    · exact pureL5_ok E h.2 j hj
theorem ahead6_ok {ops : Array Oper} {T : List (List Nat)} (hT : TOk ops T) (i : Nat) : ∀ (p : Plan), ahead6 P ops.toList T i p = true → ∀ q ∈ p, Tr ops i q.1 ∨ newAt P ops.toList q.1 = true
  | (j, kd) :: p, h, q, hq => by
    simp only [ahead6, Bool.and_eq_true, Bool.or_eq_true] at h
    rcases List.mem_cons.1 hq with rfl | hq
    · exact h.1.imp (fun h => hT _ _ ((mem_iff _ _).1 h)) id
    · exact ahead6_ok hT i p h.2 q hq
theorem pureL7_ok {ops : List Oper} {Ti F V : List Nat} : ∀ (E : List Nat), pureL7 ops Ti F V E = true → ∀ j ∈ E, j ∈ Ti ∨ pureAt ops j = true ∨ j ∈ F ∨ j ∈ V
  | k :: E, h, j, hj => by
    simp only [pureL7, Bool.and_eq_true, Bool.or_eq_true] at h
    rcases List.mem_cons.1 hj with rfl | hj
    · exact h.1.imp (mem_iff _ _).1 (Or.imp id (Or.imp (mem_iff _ _).1 (mem_iff _ _).1))
    · exact pureL7_ok E h.2 j hj
theorem ahead7_ok {ops : Array Oper} {T : List (List Nat)} (hT : TOk ops T) (i : Nat) : ∀ (p : Plan), ahead7 ops.toList T i p = true → ∀ q ∈ strip p, Tr ops i q.1 ∨ (allocAt ops.toList q.1 = false ∧ ((q.2 = 0 ∧ pureAt ops.toList q.1 = true) ∨ q.2 = 5 ∨ q.2 = 7))
  | (j, kd) :: p, h, q, hq => by
    simp only [ahead7, Bool.and_eq_true, Bool.or_eq_true, Nat.beq_eq, Bool.not_eq_true'] at h
    rw [strip] at hq
    rcases List.mem_cons.1 hq with rfl | hq
    · exact h.1.imp (fun h => hT _ _ ((mem_iff _ _).1 h)) id
    · exact ahead7_ok hT i p h.2 q hq
theorem fives_mem : ∀ (p : Plan) (q : Nat × Nat), q ∈ strip p → q.2 = 5 → q.1 ∈ fives p
  | (i, kd) :: p, q, h, h5 => by
    rw [strip] at h
    unfold fives
    rw [Bool.cond_eq_ite]
    rcases List.mem_cons.1 h with rfl | h
    · rw [if_pos (by rw [Nat.beq_eq]; exact h5)]; exact List.mem_cons_self
    · split
      · exact List.mem_cons_of_mem _ (fives_mem p q h h5)
      · exact fives_mem p q h h5
theorem sevens_mem : ∀ (p : Plan) (q : Nat × Nat), q ∈ strip p → q.2 = 7 → q.1 ∈ sevens p
  | (i, kd) :: p, q, h, h5 => by
    rw [strip] at h
    unfold sevens
    rw [Bool.cond_eq_ite]
    rcases List.mem_cons.1 h with rfl | h
    · rw [if_pos (by rw [Nat.beq_eq]; exact h5)]; exact List.mem_cons_self
    · split
      · exact List.mem_cons_of_mem _ (sevens_mem p q h h5)
      · exact sevens_mem p q h h5
theorem planB_ok {ops : Array Oper} {T : List (List Nat)} {F V : List Nat} (hT : TOk ops T) : ∀ (p : Plan) (D : List Nat), planB P ops.toList T F V D p = true → (∀ q ∈ strip p, q.2 = 5 → q.1 ∈ F) → (∀ q ∈ strip p, q.2 = 7 → q.1 ∈ V) → PlanOk P ops (· ∈ F) (· ∈ V) (· ∈ D) (strip p)
  | [], D, h, _, _ => by
    simp only [planB] at h
    split at h
    · rename_i hr
      exact fun i hi => by have := (rdy_rd D i).2 hi; rw [hr] at this; cases this
    · cases h
  | (i, kd) :: p, D, h, hf, hv => by
    simp only [planB, Bool.and_eq_true] at h
    obtain ⟨h1, h2, hS, hV, h3⟩ := h
    have hah : aheadB T i p = true → ∀ q ∈ strip p, Tr ops i q.1 := fun h q hq => by
      obtain ⟨q', hq', he⟩ := strip_mem hq
      rw [← he]; exact aheadB_ok hT i p h q' hq'
    have hf0 := hf (i, kd % 10) (by rw [strip]; exact List.mem_cons_self)
    have hv0 := hv (i, kd % 10) (by rw [strip]; exact List.mem_cons_self)
    refine ⟨(rdy_rd D i).1 ((mem_iff _ _).1 h1), ⟨⟨?_, hf0⟩, ⟨?_, hv0⟩⟩, ?_, by rw [ins_cons]; exact planB_ok hT p (i :: D) h3 (fun q hq => hf q (by rw [strip]; exact List.mem_cons_of_mem _ hq)) (fun q hq => hv q (by rw [strip]; exact List.mem_cons_of_mem _ hq))⟩
    · intro hF
      simp only [Bool.or_eq_true, Bool.not_eq_true', Nat.beq_eq] at hS
      rcases hS with hS | hS
      · rw [(mem_iff F i).2 hF] at hS; cases hS
      · exact hS
    · intro hF
      simp only [Bool.or_eq_true, Bool.not_eq_true', Nat.beq_eq] at hV
      rcases hV with hV | hV
      · rw [(mem_iff V i).2 hF] at hV; cases hV
      · exact hV
    clear hf0 hv0
    generalize kd % 10 = kd at h2
    match kd, h2 with
    | 0, _ => exact .inl rfl
    | 1, h2 => exact .inr (.inl ⟨rfl, hah h2⟩)
    | 2, h2 =>
      simp only [Bool.and_eq_true] at h2
      exact .inr (.inr (.inl ⟨rfl, hah h2.1, fun j hj => (pureL_ok _ h2.2 j hj).imp (hT i j) id⟩))
    | 4, h2 =>
      simp only [Bool.and_eq_true] at h2
      exact .inr (.inr (.inr (.inl ⟨by omega, by omega, by omega, hah h2.1, .inr ⟨rfl, fun j hj => (pureL5_ok _ h2.2 j hj).imp (hT i j) id⟩⟩)))
    | 5, h2 => exact .inr (.inr (.inr (.inr (.inl ⟨rfl, by simpa using h2⟩))))
    | 6, h2 => exact .inr (.inr (.inr (.inr (.inr (.inl ⟨rfl, fun q hq => by
      obtain ⟨q', hq', he⟩ := strip_mem hq
      rw [← he]; exact ahead6_ok hT i p h2 q' hq'⟩)))))
    | 7, h2 =>
      simp only [Bool.and_eq_true] at h2
      exact .inr (.inr (.inr (.inr (.inr (.inr ⟨rfl, h2.1, ahead7_ok hT i p h2.2.1, fun j hj => (pureL7_ok _ h2.2.2 j hj).imp (hT i j) id⟩)))))
    | 3, h2 =>
      simp only [Bool.and_eq_true] at h2
      exact .inr (.inr (.inr (.inl ⟨by omega, by omega, by omega, hah h2.1, .inl h2.2⟩)))
    | kd + 8, h2 =>
      simp only [Bool.and_eq_true] at h2
      exact .inr (.inr (.inr (.inl ⟨by omega, by omega, by omega, hah h2.1, .inl h2.2⟩)))
theorem uni_mem : ∀ (l m : List Nat) (j : Nat), j ∈ uni l m → j ∈ l ∨ j ∈ m
  | [], m, j, h => .inr h
  | a :: l, m, j, h => by
    unfold uni at h
    rw [Bool.cond_eq_ite] at h
    split at h
    · exact (uni_mem l m j h).imp (List.mem_cons_of_mem _) id
    · rcases uni_mem l _ j h with h | h
      · exact .inl (List.mem_cons_of_mem _ h)
      · rcases List.mem_cons.1 h with rfl | h
        · exact .inl List.mem_cons_self
        · exact .inr h
theorem aheadL_mem (T : List (List Nat)) : ∀ (l : List Nat) (j : Nat), j ∈ aheadL T l → j ∈ l ∨ ∃ k ∈ l, j ∈ T.getD k []
  | [], _, h => by cases h
  | a :: l, j, h => by
    rcases uni_mem _ _ j h with h | h
    · rcases List.mem_cons.1 h with rfl | h
      · exact .inl (by simp)
      · exact .inr ⟨a, by simp, h⟩
    · rcases aheadL_mem T l j h with h | ⟨k, hk, h⟩
      · exact .inl (by simp [h])
      · exact .inr ⟨k, by simp [hk], h⟩
theorem aheads_ok {ops : Array Oper} : ∀ (l : List Oper) (T : List (List Nat)), (∀ j, l[j]? = ops[T.length + j]?) → TOk ops T → TOk ops (aheads l T)
  | [], T, _, hT => hT
  | o :: r, T, hl, hT => by
    have ho : ops[T.length]? = some o := by simpa using (hl 0).symm
    refine aheads_ok r _ (fun j => ?_) ?_
    · have := hl (j + 1)
      simp only [List.length_append, List.length_cons, List.length_nil]
      rw [show T.length + (0 + 1) + j = T.length + (j + 1) by omega, ← this]
      rfl
    · intro i j hj
      rcases Nat.lt_trichotomy i T.length with h | h | h
      · rw [List.getD_eq_getElem?_getD, List.getElem?_append_left h, ← List.getD_eq_getElem?_getD] at hj
        exact hT i j hj
      · subst h
        rw [List.getD_eq_getElem?_getD, List.getElem?_append_right (Nat.le_refl _)] at hj
        simp only [Nat.sub_self, List.getElem?_cons_zero, Option.getD_some] at hj
        rcases aheadL_mem T _ j hj with h | ⟨k, hk, h⟩
        · exact .edge ho h
        · exact .step ho hk (hT k j h)
      · rw [List.getD_eq_getElem?_getD, List.getElem?_eq_none (by simp; omega)] at hj
        cases hj
theorem apartB_ok {ops : Array Oper} {T : List (List Nat)} (hT : TOk ops T) (x : Oper) (i : Nat) : ∀ (l : List Oper) (k : Nat), apartB ops T x i l k = true → ∀ q y, l[q]? = some y → i ≠ k + q → x.apart ops y = true ∨ Tr ops i (k + q) ∨ Tr ops (k + q) i
  | [], _, _, q, y, hy, _ => by simp at hy
  | z :: l, k, h, q, y, hy, hne => by
    simp only [apartB, Bool.and_eq_true, Bool.or_eq_true] at h
    cases q with
    | zero =>
      simp at hy
      subst hy
      rcases h.1 with h1 | h1 | h1 | h1
      · exact absurd (by simpa using h1) hne
      · exact .inl h1
      · exact .inr (.inl (hT _ _ ((mem_iff _ _).1 h1)))
      · exact .inr (.inr (hT _ _ ((mem_iff _ _).1 h1)))
    | succ q =>
      have := apartB_ok hT x i l (k + 1) h.2 q y (by simpa using hy) (by omega)
      rwa [show k + 1 + q = k + (q + 1) by omega] at this
theorem apartsB_ok {ops : Array Oper} {T : List (List Nat)} (hT : TOk ops T) : ∀ (l : List Oper) (i : Nat), apartsB ops T l i = true → ∀ q x, l[q]? = some x → ∀ j y, ops[j]? = some y → i + q ≠ j → x.apart ops y = true ∨ Tr ops (i + q) j ∨ Tr ops j (i + q)
  | [], _, _, q, x, hx => by simp at hx
  | z :: l, i, h, q, x, hx => by
    simp only [apartsB, Bool.and_eq_true] at h
    intro j y hy hne
    cases q with
    | zero =>
      simp at hx
      subst hx
      have := apartB_ok hT z i ops.toList 0 h.1 j y (by rw [Array.getElem?_toList]; exact hy) (by simpa using hne)
      simpa using this
    | succ q =>
      have := apartsB_ok hT l (i + 1) h.2 q x (by simpa using hx) j y hy (by omega)
      rwa [show i + 1 + q = i + (q + 1) by omega] at this
theorem drawsB_ok {A : An} {n : Nat} (hm : P.follows .mixedOrders = true) : ∀ (c : Code), drawsB P A c = true → lt n (dsts c) → DrawsOk P n A c
  | .region i ops true, h, hl => by
    intro p hp ae L F w a Q Qa hd aw ha hn hx
    simp only [drawsB, hp, drawB, Bool.and_eq_true] at h
    obtain ⟨h1, h2, h3, h4⟩ := h
    have hT : TOk ops (aheads ops.toList []) := aheads_ok ops.toList [] (fun j => by simp) (fun i j hj => by simp at hj)
    have hpl := planB_ok hT p [] h1 (fives_mem p) (sevens_mem p)
    have hE : Ls (Array.replicate ops.size false) = (· ∈ ([] : List Nat)) := by
      funext x
      simp only [Ls, Array.getD_eq_getD_getElem?, Array.getElem?_replicate]
      split <;> simp
    refine wp_region_any hm ?_
    have xd : Ext (fun _ => False) w w.drew := ⟨rfl, rfl, rfl, Nat.le_refl _, fun _ _ _ => rfl, Nat.le_succ _⟩
    obtain ⟨aw', he'⟩ := aw.nx xd
    refine any_of_run (Q := Q) (dfr0 := ae.dfr) hl
      (fun x y ox oy hox hoy hne => by
        have := apartsB_ok hT ops.toList 0 h2 x ox (by rw [Array.getElem?_toList]; exact hox) y oy hoy (by omega)
        simpa using this) (F0 := F) (L0 := L) (w0 := w) (a0 := a) hn hx ops.size _ (strip p) ae L F w.drew a (by simp) ⟨[], by simp, fun i => by rw [hE], by simp⟩ [] [] (by rw [hE]; exact hpl) ?_ aw' (ha.move he' aw) (by rw [hE]; intro x o hx; cases hx) he' (ASame.refl _ _) rfl
    exact run_of_draw p [] [] [] ae L hd (fun d hd => by cases hd)
  | .region i ops false, _, _ => trivial
  | .seq x y, h, hl => by
    simp only [drawsB, Bool.and_eq_true] at h
    exact ⟨drawsB_ok hm x h.1 (fun i hi => hl i (by simp [dsts, hi])), drawsB_ok hm y h.2 (fun i hi => hl i (by simp [dsts, hi]))⟩
  | .cond _ x y, h, hl => by
    simp only [drawsB, Bool.and_eq_true] at h
    exact ⟨drawsB_ok hm x h.1 (fun i hi => hl i (by simp [dsts, hi])), drawsB_ok hm y h.2 (fun i hi => hl i (by simp [dsts, hi]))⟩
  | .block _ c, h, hl => drawsB_ok hm c h hl
  | .loop c, h, hl => drawsB_ok hm c h hl
  | .skip, _, _ => trivial
  | .label _, _, _ => trivial
  | .exit _, _, _ => trivial
  | .goto _, _, _ => trivial
  | .ret, _, _ => trivial
  | .refuse _, _, _ => trivial
  | .scope _, _, _ => trivial
  | .rangeFunc .., _, _ => trivial
theorem aspec_of {f : FuncId} {fn : Func} {A : An} {args : List D} {L : List Bx} {R : AE → List Bx → Prop} (n : Nat) (hm : P.follows .mixedOrders = true)
    (hf : P.funcs[f]? = some fn) (hb : fn.body = some (bodyOf fn)) (hname : fn.name ≠ "runtime.NumGoroutine") (hn : args.length = n)
    (hchk : ((ltB (n + (fn.ntmps - n)) (dsts (bodyOf fn)) && (noDef (bodyOf fn) || nulB A.j)) && drawsB P A (bodyOf fn)) = true)
    (h : aex P A (bodyOf fn) (aenv0 args) L (apost P fn.results.toList R)) : ASpec P f args L R := by
  subst hn
  rw [Bool.and_eq_true] at hchk
  exact aspec_of_ex hf hb hname hchk.1 (drawsB_ok hm _ hchk.2 (ltB_spec _ (by have := hchk.1; rw [Bool.and_eq_true] at this; exact this.1))) h
end
end Go.V
set_option linter.unusedVariables false
namespace Go.V
open Go
section
variable {P : Program} {F F' F1 : Nat → Prop} {w w' : World} {L L' L1 L2 M : List Bx} {g : FuncId} {args args' : List D} {R R' : AE → List Bx → Prop}

theorem ASpec.mono (h : ASpec P g args L R) (hr : ∀ a L', R a L' → R' a L') : ASpec P g args L R' :=
  fun F w vs a hv => (h F w vs a hv).mono fun e w' ⟨ae, F', L', h1, h2, h3, h4⟩ => ⟨ae, F', L', h1, h2, h3, hr _ _ h4⟩
theorem ASpec.frame (h : ASpec P g args L R) (hp : L1.Perm (L ++ M)) : ASpec P g args L1 fun a L' => ∃ L2, L' = L2 ++ M ∧ R a L2 := by
  intro F w vs a hv
  have a1 := a.perm hp
  refine (h F w vs a1.left hv).mono ?_
  rintro e w' ⟨ae, F', L', h1, h2, h3, h4⟩
  obtain ⟨q1, q2⟩ := a1.frame h1 h2
  exact ⟨ae, F', L' ++ M, q2.perm hp.symm (List.Perm.refl _), q1, h3, L', rfl, h4⟩
theorem ASpec.permOut (h : ASpec P g args L R) (hr : ∀ a L', R a L' → ∃ L2, L'.Perm L2 ∧ R' a L2) : ASpec P g args L R' :=
  fun F w vs a hv => (h F w vs a hv).mono fun e w' ⟨ae, F', L', h1, h2, h3, h4⟩ => by
    obtain ⟨L2, hp, hr⟩ := hr _ _ h4
    exact ⟨ae, F', L2, h1.perm (List.Perm.refl _) hp, h2.perm hp, h3, hr⟩
theorem perm_erase {i : Nat} {x : Bx} (hi : L[i]? = some x) : L.Perm ([x] ++ L.eraseIdx i) := by
  obtain ⟨h, rfl⟩ := List.getElem?_eq_some_iff.1 hi
  clear hi
  induction L generalizing i with
  | nil => simp at h
  | cons y L ih =>
    cases i with
    | zero => simp
    | succ i =>
      have := ih (i := i) (by simpa using h)
      simp only [List.getElem_cons_succ, List.eraseIdx_cons_succ, List.singleton_append] at this ⊢
      exact (List.Perm.cons y this).trans (List.Perm.swap ..)
theorem perm_set {i : Nat} {x y : Bx} (hi : L[i]? = some x) : ([y] ++ L.eraseIdx i).Perm (L.set i y) := by
  have h : (L.set i y)[i]? = some y := by
    obtain ⟨h, _⟩ := List.getElem?_eq_some_iff.1 hi
    simp [h]
  have := (perm_erase h).symm
  rwa [List.eraseIdx_set_eq] at this
theorem AFn.frame {ae : AE} (h : AFn P g args [] ae) : AFn P g args L ae :=
  (ASpec.frame (M := L) h (List.Perm.refl _)).mono fun a L' ⟨L2, h1, h2, h3⟩ => ⟨h2, by rw [h1, h3]; rfl⟩
theorem AFn.frame1 {ae : AE} {x : Bx} (i : Nat) (hi : L[i]? = some x) (h : AFn P g args [x] ae) : AFn P g args L ae :=
  (ASpec.frame (M := L.eraseIdx i) h (perm_erase hi)).permOut fun a L' ⟨L2, h1, h2, h3⟩ => ⟨L, by rw [h1, h3]; exact (perm_erase hi).symm, h2, rfl⟩

theorem Gl.refl (ds : List D) (L : List Bx) : Gl ds L ds L := fun F w vs a h => ⟨F, Ev.refl .., a, h⟩
theorem Gl.trans {d1 d2 d3 : List D} (h : Gl d1 L d2 L1) (h' : Gl d2 L1 d3 L2) : Gl d1 L d3 L2 := fun F w vs a hr => by
  obtain ⟨F1, e1, a1, r1⟩ := h F w vs a hr
  obtain ⟨F2, e2, a2, r2⟩ := h' F1 w vs a1 r1
  exact ⟨F2, e1.trans e2, a2, r2⟩
theorem ASpec.gl (h : ASpec P g args' L' R) (hg : Gl args L args' L') : ASpec P g args L R := fun F w vs a hr => by
  obtain ⟨F1, e1, a1, r1⟩ := hg F w vs a hr
  exact (h F1 w vs a1 r1).mono fun e w' ⟨ae, F', L', h1, h2, h3, h4⟩ => ⟨ae, F', L', e1.trans h1, h2, h3, h4⟩
def AE.ds : AE → List D
  | .ret d => [d]
  | .pan d => [d]
def AE.like : AE → AE → Prop
  | .ret _, .ret _ => True
  | .pan _, .pan _ => True
  | _, _ => False
def Ge (a : AE) (L : List Bx) (a' : AE) (L' : List Bx) : Prop := a.like a' ∧ Gl a.ds L a'.ds L'
theorem Ge.refl (a : AE) (L : List Bx) : Ge a L a L := ⟨by cases a <;> trivial, Gl.refl _ _⟩
theorem Ge.ret {d d' : D} (h : Gl [d] L [d'] L') : Ge (.ret d) L (.ret d') L' := ⟨trivial, h⟩
theorem ASpec.ge (h : ASpec P g args L R) (hg : ∀ a L', R a L' → ∃ a' L'', Ge a L' a' L'' ∧ R' a' L'') : ASpec P g args L R' :=
  fun F w vs a hv => (h F w vs a hv).mono fun e w' ⟨ae, F', L', h1, h2, h3, h4⟩ => by
    obtain ⟨a', L'', ⟨hl, hg⟩, hr⟩ := hg _ _ h4
    cases ae with
    | ret d =>
      cases a' with
      | pan d' => exact hl.elim
      | ret d' =>
        obtain ⟨v, rfl, h3⟩ := h3
        obtain ⟨F2, e2, a2, r2⟩ := hg F' w' [v] h2 (reps_cons h3 reps_nil)
        obtain ⟨v', h5, h6⟩ := r2.one
        injection h5 with h5; subst h5
        exact ⟨.ret d', F2, L'', h1.trans e2, a2, ⟨_, rfl, h6⟩, hr⟩
    | pan d =>
      cases a' with
      | ret d' => exact hl.elim
      | pan d' =>
        obtain ⟨v, rfl, h3⟩ := h3
        obtain ⟨F2, e2, a2, r2⟩ := hg F' w' [v] h2 (reps_cons h3 reps_nil)
        obtain ⟨v', h5, h6⟩ := r2.one
        injection h5 with h5; subst h5
        exact ⟨.pan d', F2, L'', h1.trans e2, a2, ⟨_, rfl, h6⟩, hr⟩
theorem AW.sub (a : AW F L w) (h : L'.Sublist L) : AW F L' w ∧ Ev F L w F L' w :=
  ⟨⟨fun x hx => a.own x (h.subset hx), a.nodup.sublist (h.map _), fun x hx => a.sep x (h.subset hx), a.lt⟩,
    ⟨rfl, rfl, rfl, Nat.le_refl _, fun _ _ _ => rfl, fun _ h => h, fun _ _ h => .inl h, fun x hx _ => ⟨x, h.subset hx, rfl⟩, Nat.le_refl _⟩⟩
theorem Gl.drop {ds : List D} (h : L'.Sublist L) : Gl ds L ds L' := fun F w vs a hr => ⟨F, (a.sub h).2, (a.sub h).1, hr⟩
mutual
inductive Wk (h r : D) : D → D → Prop
  | refl (d : D) : Wk h r d d
  | hit : Wk h r h r
  | agg {l l' : List D} (t : WkL h r l l') : Wk h r (.agg l) (.agg l')
  | tuple {l l' : List D} (t : WkL h r l l') : Wk h r (.tuple l) (.tuple l')
  | fn {g : FuncId} {f f' c c' : List D} (t : WkL h r f f') (t' : WkL h r c c') : Wk h r (.fn g f c) (.fn g f' c')
inductive WkL (h r : D) : List D → List D → Prop
  | nil : WkL h r [] []
  | cons {d d' : D} {l l' : List D} (q : Wk h r d d') (t : WkL h r l l') : WkL h r (d :: l) (d' :: l')
end
theorem WkL.refl (h r : D) : ∀ l, WkL h r l l
  | [] => .nil
  | d :: l => .cons (.refl d) (WkL.refl h r l)
mutual
theorem Wk.ok {h r : D} (hh : ∀ v, Rep F w h v → Rep F' w r v) (k : ∀ d v, Rep F w d v → Rep F' w d v) : ∀ {d d' : D} {v : Value}, Wk h r d d' → Rep F w d v → Rep F' w d' v
  | _, _, _, .refl d, hr => k d _ hr
  | _, _, _, .hit, hr => hh _ hr
  | _, _, _, .agg t, hr => by
    rw [Rep] at hr ⊢
    obtain ⟨vs, rfl, hr⟩ := hr
    exact ⟨vs, rfl, WkL.ok hh k t hr⟩
  | _, _, _, .tuple t, hr => by
    rw [Rep] at hr ⊢
    obtain ⟨vs, rfl, hr⟩ := hr
    exact ⟨vs, rfl, WkL.ok hh k t hr⟩
  | _, _, _, .fn t t', hr => by
    rw [Rep] at hr ⊢
    obtain ⟨as, cs, rfl, h1, h2⟩ := hr
    exact ⟨as, cs, rfl, WkL.ok hh k t h1, WkL.ok hh k t' h2⟩
theorem WkL.ok {h r : D} (hh : ∀ v, Rep F w h v → Rep F' w r v) (k : ∀ d v, Rep F w d v → Rep F' w d v) : ∀ {l l' : List D} {vs : List Value}, WkL h r l l' → Reps F w l vs → Reps F' w l' vs
  | _, _, _, .nil, hr => by rw [Reps] at hr ⊢; exact hr
  | _, _, _, .cons q t, hr => by
    rw [Reps] at hr ⊢
    obtain ⟨v, s, rfl, h1, h2⟩ := hr
    exact ⟨v, s, rfl, Wk.ok hh k q h1, WkL.ok hh k t h2⟩
end
theorem WkL.length {h r : D} : ∀ {l l' : List D}, WkL h r l l' → l.length = l'.length
  | _, _, .nil => rfl
  | _, _, .cons _ t => by simp [WkL.length t]
inductive WkB (h r : D) : List Bx → List Bx → Prop
  | nil : WkB h r [] []
  | cons {b : Nat} {l l' : List D} {k : Kd} {L L' : List Bx} (q : WkL h r l l') (t : WkB h r L L') : WkB h r (⟨b, l, k⟩ :: L) (⟨b, l', k⟩ :: L')
theorem WkB.refl (h r : D) : ∀ L, WkB h r L L
  | [] => .nil
  | ⟨b, l, k⟩ :: L => .cons (WkL.refl h r l) (WkB.refl h r L)
theorem WkB.mem {h r : D} : ∀ {L L' : List Bx}, WkB h r L L' → ∀ x ∈ L', ∃ l, (⟨x.b, l, x.k⟩ : Bx) ∈ L ∧ WkL h r l x.l
  | _, _, .nil, x, hx => by cases hx
  | _, _, .cons q t, x, hx => by
    rcases List.mem_cons.1 hx with rfl | hx
    · exact ⟨_, List.mem_cons_self, q⟩
    · obtain ⟨l, h1, h2⟩ := WkB.mem t x hx
      exact ⟨l, List.mem_cons_of_mem _ h1, h2⟩
theorem WkB.bs {h r : D} : ∀ {L L' : List Bx}, WkB h r L L' → L'.map Bx.b = L.map Bx.b
  | _, _, .nil => rfl
  | _, _, .cons _ t => by simp [WkB.bs t]
theorem Gl.fz {ds ds' : List D} (i : Nat) {b e sz cap n c : Nat} {l : List D} (hi : L[i]? = some (Bx.mk b l (.row e sz cap))) (hl : l.length = n * sz)
    (hd : WkL (.sl b 0 n c) (.row sz (chunk sz n l)) ds ds') (hL : WkB (.sl b 0 n c) (.row sz (chunk sz n l)) (L.eraseIdx i) L') : Gl ds L ds' L' := by
  intro F w vs a hr
  have hm := List.mem_of_getElem? hi
  have hb := a.at hi
  obtain ⟨cc, t, us, b1, b2, b3, rfl, b5, b6, _⟩ := hb.row (fun _ hh => by cases hh)
  simp only at b1 b2 b3
  have a1 := a.perm (perm_erase hi)
  have nd := a1.nodup
  simp only [List.singleton_append, List.map_cons, List.nodup_cons] at nd
  have grow : ∀ d v, Rep F w d v → Rep (fun k => F k ∨ k = b) w d v := fun d v h => Rep.keep ⟨Nat.le_refl _, fun k _ hk => .inl hk, fun _ _ _ => rfl⟩ d v h
  have hlt := hb.lt
  have hus := b2.length
  have hhead : ∀ v, Rep F w (.sl b 0 n c) v → Rep (fun k => F k ∨ k = b) w (.row sz (chunk sz n l)) v := by
    intro v hv
    obtain ⟨rfl, hok⟩ := rep_val_iff.1 hv
    rw [Rep]
    refine ⟨_, c, by rw [chunk_length], ⟨by rw [chunk_length]; exact hok.1, hok.2⟩, .inr ⟨b, 0, rfl, .inr rfl, hlt, ?_⟩⟩
    have hc := cells_of b1 0 l.length
    rw [List.drop_zero, ← b3] at hc
    exact rws_chunk n (Reps.keep ⟨Nat.le_refl _, fun k _ hk => .inl hk, fun _ _ _ => rfl⟩ _ _ b2) hc (by omega)
  have mem : ∀ x ∈ L.eraseIdx i, x ∈ L := fun x hx => List.mem_of_mem_eraseIdx hx
  refine ⟨fun k => F k ∨ k = b, ⟨rfl, rfl, rfl, Nat.le_refl _, fun _ _ _ => rfl, fun _ h => .inl h, ?_, ?_, Nat.le_refl _⟩, ⟨?_, ?_, ?_, ?_⟩, WkL.ok hhead grow hd hr⟩
  · rintro k _ (hk | rfl)
    · exact .inl hk
    · exact .inr ⟨_, hm, rfl⟩
  · intro x hx _
    obtain ⟨l0, h1, _⟩ := hL.mem x hx
    exact ⟨_, mem _ h1, rfl⟩
  · intro x hx
    obtain ⟨l0, h1, h2⟩ := hL.mem x hx
    rcases (a.own _ (mem _ h1)).has with ⟨es, ces, clock, q0, q1, q2, q3, q4⟩ | ⟨c', t', vs', q1, q2, q3, q4⟩
    · simp only at q0 q1 q2
      subst q1
      exact ⟨.inl ⟨es, ces, clock, q0, List.length_eq_zero_iff.1 h2.length.symm, q2, q3.map grow, q4⟩⟩
    · simp only at q1 q2 q3 q4
      exact ⟨.inr ⟨c', t', vs', q1, WkL.ok hhead grow h2 q2, by rw [← h2.length]; exact q3, by rw [← h2.length]; exact q4⟩⟩
  · rw [hL.bs]; exact nd.2
  · rintro x hx (hf | hf)
    · obtain ⟨l0, h1, _⟩ := hL.mem x hx
      exact a.sep _ (mem _ h1) hf
    · obtain ⟨l0, h1, _⟩ := hL.mem x hx
      exact nd.1 (List.mem_map.2 ⟨_, h1, hf⟩)
  · rintro k (hk | rfl)
    · exact a.lt k hk
    · exact hlt
theorem rep_nil_row {sz : Nat} {v : Value} (h : Rep F w .nil v) : Rep F w (.row sz []) v := by
  obtain ⟨rfl, _⟩ := rep_val_iff.1 h
  rw [Rep]
  exact ⟨none, 0, rfl, ⟨Nat.le_refl _, by decide⟩, .inl rfl⟩
theorem Gl.nil {ds ds' : List D} (sz : Nat) (hd : WkL .nil (.row sz []) ds ds') (hL : WkB .nil (.row sz []) L L') : Gl ds L ds' L' := by
  intro F w vs a hr
  have hh : ∀ v, Rep F w .nil v → Rep F w (.row sz []) v := fun v h => rep_nil_row h
  refine ⟨F, ⟨rfl, rfl, rfl, Nat.le_refl _, fun _ _ _ => rfl, fun _ h => h, fun _ _ h => .inl h, ?_, Nat.le_refl _⟩, ⟨?_, ?_, ?_, a.lt⟩, WkL.ok hh (fun _ _ h => h) hd hr⟩
  · intro x hx _
    obtain ⟨l0, h1, _⟩ := hL.mem x hx
    exact ⟨_, h1, rfl⟩
  · intro x hx
    obtain ⟨l0, h1, h2⟩ := hL.mem x hx
    rcases (a.own _ h1).has with ⟨es, ces, clock, q0, q1, q2, q3, q4⟩ | ⟨c', t', vs', q1, q2, q3, q4⟩
    · simp only at q0 q1 q2
      subst q1
      exact ⟨.inl ⟨es, ces, clock, q0, List.length_eq_zero_iff.1 h2.length.symm, q2, q3, q4⟩⟩
    · simp only at q1 q2 q3 q4
      exact ⟨.inr ⟨c', t', vs', q1, WkL.ok hh (fun _ _ h => h) h2 q2, by rw [← h2.length]; exact q3, by rw [← h2.length]; exact q4⟩⟩
  · rw [hL.bs]; exact a.nodup
  · intro x hx hf
    obtain ⟨l0, h1, _⟩ := hL.mem x hx
    exact a.sep _ h1 hf
def D.plain : D → Bool
  | .val _ => true
  | .tuple l => l.all fun d => match d with | .val _ => true | _ => false
  | _ => false
variable {kp k : D → List Bx → Prop}
def AE.on (kp k : D → List Bx → Prop) : AE → List Bx → Prop
  | .ret d, L => k d L
  | .pan d, L => kp d L
theorem a_callW (h : ASpec P g args L R) (hk : ∀ a L', R a L' → a.on kp k L') : acallW P g args L kp k :=
  ASpec.mono h fun a L' hr => by cases a <;> exact hk _ _ hr
theorem a_call {ae : AE} (h : AFn P g args L ae) (hk : ae.on kp k L) : acallW P g args L kp k :=
  a_callW h fun a L' ⟨h1, h2⟩ => by subst h1; subst h2; exact hk
theorem a_callS {ae : AE} (h : AFn P g args L ae) (hk : ae.on kp k L) : acallS P g args L kp k :=
  ⟨ae, h, by cases ae <;> exact hk⟩
theorem a_call0 {d : D} (h : AFn P g args [] (.ret d)) (hk : k d L) : acallW P g args L kp k := a_call h.frame hk
theorem a_callS0 {d : D} (h : AFn P g args [] (.ret d)) (hk : k d L) : acallS P g args L kp k := a_callS h.frame hk
theorem a_callF (hp : L.Perm (L1 ++ M)) (h : ASpec P g args L1 R) (hk : ∀ a L', R a L' → a.on kp k (L' ++ M)) : acallW P g args L kp k :=
  a_callW (h.frame hp) fun a L' ⟨L2, h1, h2⟩ => by rw [h1]; exact hk a L2 h2
theorem ASpec.sub (h : ASpec P g args L fun a L' => ∃ L2, L2.Sublist L' ∧ R a L2) : ASpec P g args L R :=
  h.ge fun a L' ⟨L2, h1, h2⟩ => ⟨a, L2, ⟨by cases a <;> trivial, Gl.drop h1⟩, h2⟩
def AUp (P : Program) (g : FuncId) (args : List D) (L : List Bx) (a : AE) (L' : List Bx) : Prop := ASpec P g args L fun a' L2 => a' = a ∧ L2 = L'
theorem AUp.of {a : AE} (h : ASpec P g args L fun a' L2 => a' = a ∧ L'.Sublist L2) : AUp P g args L a L' :=
  ASpec.sub (h.mono fun a' L2 ⟨h1, h2⟩ => ⟨L', h2, h1, rfl⟩)
theorem a_callU {x y : Bx} {ae : AE} (i : Nat) (hi : L[i]? = some x) (h : AUp P g args [x] ae [y]) (hk : ae.on kp k (L.set i y)) : acallW P g args L kp k :=
  a_callW (R := fun a L' => a = ae ∧ L' = L.set i y) ((h.frame (perm_erase hi)).permOut fun a L' ⟨L2, h1, h2, h3⟩ => ⟨L.set i y, by rw [h1, h3]; exact perm_set hi, h2, rfl⟩)
    fun a L' ⟨h1, h2⟩ => by rw [h1, h2]; exact hk
theorem a_callA {ae : AE} (q : Nat) (hd : L.take q = L1) (h : AUp P g args L1 ae L2) (hk : ae.on kp k (L2 ++ L.drop q)) : acallW P g args L kp k :=
  a_callW (R := fun a L' => a = ae ∧ L' = L2 ++ L.drop q) ((h.frame (L1 := L) (M := L.drop q) (by rw [← hd, List.take_append_drop])).mono fun a L' ⟨L3, h1, h2, h3⟩ => ⟨h2, by rw [h1, h3]⟩)
    fun a L' ⟨h1, h2⟩ => by rw [h1, h2]; exact hk
theorem a_callB {ae : AE} (q : Nat) (hd : L.drop q = L1) (h : AUp P g args L1 ae L2) (hk : ae.on kp k (L.take q ++ L2)) : acallW P g args L kp k :=
  a_callW (R := fun a L' => a = ae ∧ L' = L.take q ++ L2) ((h.frame (L1 := L) (M := L.take q) (by
    rw [← hd]
    have := List.perm_append_comm (l₁ := L.take q) (l₂ := L.drop q)
    rwa [List.take_append_drop] at this)).permOut fun a L' ⟨L3, h1, h2, h3⟩ => ⟨L.take q ++ L2, by rw [h1, h3]; exact List.perm_append_comm, h2, rfl⟩)
    fun a L' ⟨h1, h2⟩ => by rw [h1, h2]; exact hk
theorem a_callg (hg : Gl args L args' L') (h : acallW P g args' L' kp k) : acallW P g args L kp k := ASpec.gl h hg
end

def apn (R : AE → List Bx → Prop) (d : D) (L : List Bx) : Prop := R (.pan d) L
section
variable {L : List Bx} {k : D → Prop} {kl : D → List Bx → Prop}
theorem a_bx {l : List D} (h : ∀ b, kl (.p b 0) (⟨b, l, .box⟩ :: L)) : abx l L kl := h
theorem a_bxv {l : List D} (h : ∀ b, kl (.p b 0) (⟨b, l, .box⟩ :: L)) : abxv (.agg l) L kl := h
theorem a_bxi {ki : IntKind} {n : Int} (h : ∀ b, kl (.p b 0) (⟨b, [.val (.int ki n)], .box⟩ :: L)) : abxv (.val (.int ki n)) L kl := h
theorem a_bxs {s : ByteArray} (h : ∀ b, kl (.p b 0) (⟨b, [.s s], .box⟩ :: L)) : abxv (.s s) L kl := h
theorem a_bxr {sz : Nat} {l : List (List D)} (h : ∀ b, kl (.p b 0) (⟨b, [.row sz l], .box⟩ :: L)) : abxv (.row sz l) L kl := h
theorem a_ld1 (i : Nat) {b o : Nat} {l : List D} {kd : Kd} {d : D} (hi : L[i]? = some (Bx.mk b l kd)) (hd : l[o]? = some d) (h : k d) : ald1 (.p b o) L k := ⟨i, l, kd, d, hi, hd, h⟩
theorem a_ld1p {l r : List D} {d : D} (e : l = d :: r) (h : k d) : ald1 (.pin l) L k := by subst e; exact h
theorem a_ldA (i : Nat) {b n : Nat} {l : List D} {kd : Kd} (hi : L[i]? = some (Bx.mk b l kd)) (hn : l.length = n) (h : k (.agg l)) : aldN n (.p b 0) L k := ⟨i, l, kd, l, hi, by simp [← hn], hn, h⟩
theorem a_ldN (i : Nat) {b o n : Nat} {l : List D} {kd : Kd} (m : List D) (hi : L[i]? = some (Bx.mk b l kd)) (hm : (l.drop o).take n = m) (hn : m.length = n) (h : k (.agg m)) : aldN n (.p b o) L k := ⟨i, l, kd, m, hi, hm, hn, h⟩
theorem a_ldAp {n : Nat} {l : List D} (hn : l.length = n) (h : k (.agg l)) : aldN n (.pin l) L k := ⟨l, by rw [← hn, List.take_length], hn, h⟩
theorem a_st (i : Nat) {n b o : Nat} {l : List D} {kd : Kd} {v : D} {ks : List Bx → Prop} (m : List D) (hi : L[i]? = some (Bx.mk b l kd)) (hn : (cl v).length = n) (ho : (cl v).all D.one = true) (hle : Nat.ble (o + n) l.length = true) (hm : l.take o ++ cl v ++ l.drop (o + n) = m) (h : ks (L.set i ⟨b, m, kd⟩)) : ast n (.p b o) v L ks :=
  ⟨i, l, kd, m, hi, hn, ho, Nat.le_of_ble_eq_true hle, hm, h⟩
theorem a_nil {a : Addr} (h : k (.val (.pointer (some a)))) : anilc (.val (.pointer (some a))) k := h
theorem a_fld {f b o : Nat} (h : k (.p b (o + f))) : afld f (.p b o) k := h
theorem a_fldp {f : Nat} {l : List D} (h : k (.pin (l.drop f))) : afld f (.pin l) k := h
theorem a_idx {sz : Nat} {l : List (List D)} {ki : IntKind} (i : Nat) (e : List D) (he : l[i]? = some e) (h : k (.pin e)) : aidxS sz (.row sz l) (.val (.int ki i)) k :=
  ⟨rfl, by omega, e, by simpa using he, h⟩
theorem a_idxO {sz b o n c : Nat} {ki : IntKind} {j : Int} (h0 : 0 ≤ j) (h1 : j < n) (h : k (.p b (o + j.toNat * sz))) : aidxS sz (.sl b o n c) (.val (.int ki j)) k := ⟨h0, h1, h⟩
theorem a_idxP {n sz b o : Nat} {ki : IntKind} {j : Int} (h0 : 0 ≤ j) (h1 : j < n) (h : k (.p b (o + j.toNat * sz))) : aidxP n sz (.p b o) (.val (.int ki j)) k := ⟨h0, h1, h⟩
theorem a_bld {z : List D} {ps : List (Nat × Nat × D)} (l : List D) (hs : asizes ps = true) (hl : afill z (aparts ps) = l) (h : k (.agg l)) : abld z ps k := ⟨hs, l, l, hl, .refl _, h⟩
theorem a_bldW {z : List D} {ps : List (Nat × Nat × D)} (l l' : List D) (hs : asizes ps = true) (hl : afill z (aparts ps) = l) (hn : NilW l l') (h : k (.agg l')) : abld z ps k := ⟨hs, l, l', hl, hn, h⟩
theorem a_bldF {sz n : Nat} {z : List D} {ps : List (Nat × Nat × D)} (l : List (List D)) (hs : asizes ps = true) (hl : chunk sz n (afill z (aparts ps)) = l) (h : k (.row sz l)) : abldF sz n z ps k := ⟨hs, l, hl, h⟩
theorem a_bldS {e sz n : Nat} {z : List D} {ps : List (Nat × Nat × D)} (l : List (List D)) (hs : asizes ps = true) (hl : chunk sz n (afill z (aparts ps)) = l) (h : kl (.row sz l) L) : abldS e sz n z ps L kl := .inl ⟨hs, l, hl, h⟩
theorem a_bldO {e sz n : Nat} {z : List D} {ps : List (Nat × Nat × D)} (l : List D) (hs : asizes ps = true) (hl : afill z (aparts ps) = l) (h : ∀ b, kl (.sl b 0 n n) (⟨b, l, .row e sz n⟩ :: L)) : abldS e sz n z ps L kl := .inr ⟨hs, l, hl, h⟩
theorem a_f1 {f : Nat} {l : List D} {d : D} (hd : l[f]? = some d) (h : k d) : afield1 f (.agg l) k := ⟨d, hd, h⟩
theorem a_ext {j : Nat} {l : List D} {d : D} (hd : l[j]? = some d) (h : k d) : aext j (.tuple l) k := ⟨d, hd, h⟩
theorem a_lenL {sz : Nat} {l : List (List D)} (h : k (.i l.length)) : alenL (.row sz l) k := h
theorem a_lenO {p : Option Addr} {n c : Nat} (h : k (.i n)) : alenL (.val (.slice p n c)) k := h
theorem a_not {b : Bool} (h : k (.b !b)) : anotb (.b b) k := h
theorem i64_wrap {n : Int} (h : -9223372036854775808 ≤ n) (h' : n ≤ 9223372036854775807) : IntKind.i64.wrap n = n := by
  simp only [IntKind.wrap]
  first
  | (simp [IntKind.bits, IntKind.signed]; omega)
  | (split <;> omega)
theorem a_add {m n : Int} (h1 : -9223372036854775808 ≤ m + n) (h2 : m + n ≤ 9223372036854775807) (h : k (.i (m + n))) : aar .add (.i m) (.i n) k :=
  by
  show _ ∧ k (.i (IntKind.i64.wrap _))
  exact ⟨rfl, by rw [i64_wrap h1 h2]; exact h⟩
theorem a_sub {m n : Int} (h1 : -9223372036854775808 ≤ m - n) (h2 : m - n ≤ 9223372036854775807) (h : k (.i (m - n))) : aar .sub (.i m) (.i n) k :=
  by
  show _ ∧ k (.i (IntKind.i64.wrap _))
  exact ⟨rfl, by rw [i64_wrap h1 h2]; exact h⟩
theorem a_addw {a : IntKind} {m n : Int} (h : k (.val (.int a (a.wrap (m + n))))) : aar .add (.val (.int a m)) (.val (.int a n)) k := by
  show _ ∧ _
  exact ⟨rfl, h⟩
theorem a_mulw {a : IntKind} {m n : Int} (h : k (.val (.int a (a.wrap (m * n))))) : aar .mul (.val (.int a m)) (.val (.int a n)) k := by
  show _ ∧ _
  exact ⟨rfl, h⟩
theorem a_lss {a : IntKind} {m n : Int} (h : k (.b (decide (m < n)))) : aar .lss (.val (.int a m)) (.val (.int a n)) k := by
  show _ ∧ _
  exact ⟨rfl, h⟩
theorem a_leq {a : IntKind} {m n : Int} (h : k (.b (decide (m ≤ n)))) : aar .leq (.val (.int a m)) (.val (.int a n)) k := by
  show _ ∧ _
  exact ⟨rfl, h⟩
theorem a_gtr {a : IntKind} {m n : Int} (h : k (.b (decide (m > n)))) : aar .gtr (.val (.int a m)) (.val (.int a n)) k := by
  show _ ∧ _
  exact ⟨rfl, h⟩
theorem a_geq {a : IntKind} {m n : Int} (h : k (.b (decide (m ≥ n)))) : aar .geq (.val (.int a m)) (.val (.int a n)) k := by
  show _ ∧ _
  exact ⟨rfl, h⟩
theorem a_eql {a : IntKind} {m n : Int} (h : k (.b (decide (m = n)))) : aar .eql (.val (.int a m)) (.val (.int a n)) k := by
  have e : (m == n) = decide (m = n) := by by_cases h : m = n <;> simp [h]
  show _ ∧ k (.b (m == n))
  exact ⟨rfl, by rw [e]; exact h⟩
theorem a_neq {a : IntKind} {m n : Int} (h : k (.b (decide (m ≠ n)))) : aar .neq (.val (.int a m)) (.val (.int a n)) k := by
  have e : (m != n) = decide (m ≠ n) := by by_cases h : m = n <;> simp [h]
  show _ ∧ k (.b (m != n))
  exact ⟨rfl, by rw [e]; exact h⟩
theorem bytes_eq (a b : ByteArray) : (a.toList == b.toList) = decide (a = b) := by
  by_cases h : a = b
  · simp [h]
  · have : a.toList ≠ b.toList := fun hh => h (by
      apply ByteArray.ext; apply Array.ext'
      have h1 : ∀ x : ByteArray, x.toList = x.data.toList := ByteArray.toList_eq
      rw [← h1, ← h1]; exact hh)
    simp [h, this]
theorem a_eqlS {a b : ByteArray} (h : k (.b (decide (a = b)))) : aar .eql (.s a) (.s b) k := by
  show k (.b (a.toList == b.toList)); rw [bytes_eq]; exact h
theorem a_neqS {a b : ByteArray} (h : k (.b (decide (a ≠ b)))) : aar .neq (.s a) (.s b) k := by
  show k (.b !(a.toList == b.toList)); rw [bytes_eq]
  have : (!decide (a = b)) = decide (a ≠ b) := by simp
  rw [this]; exact h
theorem a_eqlB {a b : Bool} (h : k (.b (a == b))) : aarB .eql (.b a) (.b b) k := h
theorem a_neqB {a b : Bool} (h : k (.b (!(a == b)))) : aarB .neq (.b a) (.b b) k := h
theorem a_max {a : IntKind} {m n : Int} (h : k (.val (.int a (max m n)))) : amax2 (.val (.int a m)) (.val (.int a n)) k := by
  have : max m n = if n > m then n else m := by split <;> omega
  rw [this] at h; exact ⟨rfl, h⟩
theorem a_max3 {a : IntKind} {m n o : Int} (h : k (.val (.int a (max (max m n) o)))) : amax3 (.val (.int a m)) (.val (.int a n)) (.val (.int a o)) k := by
  have e1 : max m n = if n > m then n else m := by split <;> omega
  have e2 : max (max m n) o = if o > max m n then o else max m n := by split <;> omega
  rw [e2, e1] at h; exact ⟨rfl, rfl, h⟩
theorem a_cvI {a c : IntKind} {n : Int} (h : k (.val (.int a (a.wrap n)))) : acvI a (.val (.int c n)) k := h
theorem a_cv64 {n : Int} (h1 : -9223372036854775808 ≤ n) (h2 : n ≤ 9223372036854775807) {c : IntKind} (h : k (.i n)) : acvI .i64 (.val (.int c n)) k := by
  show k (.i (IntKind.i64.wrap n)); rw [i64_wrap h1 h2]; exact h
variable {A B : Prop}
theorem a_cnd {p : Prop} [Decidable p] (h1 : p → A) (h2 : ¬ p → B) : acnd (.b (decide p)) A B := by
  by_cases h : p
  · rw [decide_eq_true h]; exact h1 h
  · rw [decide_eq_false h]; exact h2 h
theorem a_cndb {c : Bool} (h1 : c = true → A) (h2 : c = false → B) : acnd (.b c) A B := by
  cases c
  · exact h2 rfl
  · exact h1 rfl
section
variable (x0 x1 x2 x3 x4 x5 x6 x7 x8 : D) (r : List D)
theorem aix0 : aix (x0 :: r) 0 = x0 := rfl
theorem aix1 : aix (x0 :: x1 :: r) 1 = x1 := rfl
theorem aix2 : aix (x0 :: x1 :: x2 :: r) 2 = x2 := rfl
theorem aix3 : aix (x0 :: x1 :: x2 :: x3 :: r) 3 = x3 := rfl
theorem aix4 : aix (x0 :: x1 :: x2 :: x3 :: x4 :: r) 4 = x4 := rfl
theorem aix5 : aix (x0 :: x1 :: x2 :: x3 :: x4 :: x5 :: r) 5 = x5 := rfl
theorem aix6 : aix (x0 :: x1 :: x2 :: x3 :: x4 :: x5 :: x6 :: r) 6 = x6 := rfl
theorem aix7 : aix (x0 :: x1 :: x2 :: x3 :: x4 :: x5 :: x6 :: x7 :: r) 7 = x7 := rfl
theorem aix8 : aix (x0 :: x1 :: x2 :: x3 :: x4 :: x5 :: x6 :: x7 :: x8 :: r) 8 = x8 := rfl
end
theorem a_jn {σ : Type} {F : List D → List Bx → Prop} {G} (vs : σ → List D) (Ls : σ → List Bx) (I : σ → Prop) (h : ∀ x, I x → F (vs x) (Ls x)) (hG : ∀ J : List D → List Bx → Prop, (∀ x v l, I x → Gl v l (vs x) (Ls x) → J v l) → G J) : ajn F G :=
  ⟨fun v l => ∃ x, v = vs x ∧ l = Ls x ∧ I x, fun v l ⟨x, h1, h2, h3⟩ => by rw [h1, h2]; exact h x h3, hG _ fun x v l hx hg => ⟨_, _, hg, x, rfl, rfl, hx⟩⟩
theorem a_lp {σ : Type} {init : List D} {F} (vs : σ → List D) (Ls : σ → List Bx) (I : σ → Prop) (μ : σ → Nat) (x0 : σ) (e : Gl init L (vs x0) (Ls x0)) (h0 : I x0)
    (h : ∀ x K, I x → (∀ y v l, I y → μ y < μ x → Gl v l (vs y) (Ls y) → K v l) → F (vs x) (Ls x) K) : alp init L F := by
  classical
  have hex : ∀ l m, (∃ x, l = vs x ∧ m = Ls x ∧ I x) → ∃ q, (∃ x, l = vs x ∧ m = Ls x ∧ I x ∧ μ x = q) ∧ ∀ k, (∃ x, l = vs x ∧ m = Ls x ∧ I x ∧ μ x = k) → q ≤ k :=
    fun l m ⟨x, h1, h2, h3⟩ => least (p := fun q => ∃ x, l = vs x ∧ m = Ls x ∧ I x ∧ μ x = q) (μ x) ⟨x, h1, h2, h3, rfl⟩
  refine ⟨fun l m => ∃ x, l = vs x ∧ m = Ls x ∧ I x, fun l m => if hh : ∃ x, l = vs x ∧ m = Ls x ∧ I x then (hex l m hh).choose else 0, ⟨_, _, e, x0, rfl, rfl, h0⟩, ?_⟩
  intro l m hl
  obtain ⟨⟨x, hx, hm, hI, hμ⟩, hmin⟩ := (hex l m hl).choose_spec
  subst hx
  subst hm
  refine h x _ hI ?_
  intro y v l hy hlt hg
  refine ⟨_, _, hg, ⟨y, rfl, rfl, hy⟩, ?_⟩
  have h2 : ∃ z, vs y = vs z ∧ Ls y = Ls z ∧ I z := ⟨y, rfl, rfl, hy⟩
  simp only [dif_pos h2, dif_pos hl]
  have h3 := (hex _ _ h2).choose_spec.2 (μ y) ⟨y, rfl, rfl, hy, rfl⟩
  omega
theorem a_lp2 {σ τ : Type} {init : List D} {F} (vs : σ → τ → List D) (Ls : σ → τ → List Bx) (I : σ → τ → Prop) (μ : σ → τ → Nat) (x0 : σ) (y0 : τ) (e : Gl init L (vs x0 y0) (Ls x0 y0)) (h0 : I x0 y0)
    (h : ∀ x y K, I x y → (∀ x' y' v l, I x' y' → μ x' y' < μ x y → Gl v l (vs x' y') (Ls x' y') → K v l) → F (vs x y) (Ls x y) K) : alp init L F :=
  a_lp (σ := σ × τ) (fun z => vs z.1 z.2) (fun z => Ls z.1 z.2) (fun z => I z.1 z.2) (fun z => μ z.1 z.2) (x0, y0) e h0 fun z K hI hK => h z.1 z.2 K hI fun x' y' => hK (x', y')
theorem a_lp3 {σ τ ρ : Type} {init : List D} {F} (vs : σ → τ → ρ → List D) (Ls : σ → τ → ρ → List Bx) (I : σ → τ → ρ → Prop) (μ : σ → τ → ρ → Nat) (x0 : σ) (y0 : τ) (z0 : ρ) (e : Gl init L (vs x0 y0 z0) (Ls x0 y0 z0)) (h0 : I x0 y0 z0)
    (h : ∀ x y z K, I x y z → (∀ x' y' z' v l, I x' y' z' → μ x' y' z' < μ x y z → Gl v l (vs x' y' z') (Ls x' y' z') → K v l) → F (vs x y z) (Ls x y z) K) : alp init L F :=
  a_lp2 (τ := τ × ρ) (fun x z => vs x z.1 z.2) (fun x z => Ls x z.1 z.2) (fun x z => I x z.1 z.2) (fun x z => μ x z.1 z.2) x0 (y0, z0) e h0 fun x z K hI hK => h x z.1 z.2 K hI fun x' y' z' => hK x' (y', z')
theorem a_cfW {P : Program} {g : Nat} {f c args : List D} {kp : D → List Bx → Prop} (h : acallW P g (f ++ args ++ c) L kp kl) : acallF P false (.fn g f c) args L kp kl := h
theorem a_cfS {P : Program} {g : Nat} {f c args : List D} {kp : D → List Bx → Prop} (h : acallS P g (f ++ args ++ c) L kp kl) : acallF P true (.fn g f c) args L kp kl := h
theorem a_app0 {e sz bytes : Nat} {x : D} (m : Nat) (ys : List D) (hs : asrc sz x L m ys) (ho : ys.all D.one = true) (hb : m * bytes ≤ 140737488355328) (hm : m ≠ 0) (h : ∀ b c, kl (.sl b 0 m c) (⟨b, ys, .row e sz c⟩ :: L)) : aapp e sz bytes .nil x L kl :=
  ⟨m, ys, hs, ho, hb, by rw [Bool.cond_eq_ite, if_neg (by rw [Nat.beq_eq]; exact hm)]; exact h⟩
theorem a_app {e sz bytes b n c : Nat} {x : D} (i : Nat) (l : List D) (m : Nat) (ys : List D) (hi : L[i]? = some (Bx.mk b l (.row e sz c))) (hl : l.length = n * sz) (hs : asrc sz x L m ys) (ho : ys.all D.one = true) (hb : (n + m) * bytes ≤ 140737488355328)
    (h : ∀ b' c', kl (.sl b' 0 (n + m) c') (L.set i ⟨b', l ++ ys, .row e sz c'⟩)) : aapp e sz bytes (.sl b 0 n c) x L kl :=
  ⟨m, ys, hs, ho, .inl ⟨hb, i, l, hi, hl, h⟩⟩
theorem a_appR {e sz bytes b n c : Nat} {x : D} (i : Nat) (l : List D) (m : Nat) (ys : List D) (hi : L[i]? = some (Bx.mk b l (.row e sz c))) (hs : asrc sz x L m ys) (ho : ys.all D.one = true) (hc : n + m ≤ c) (hl : n * sz + ys.length ≤ l.length)
    (h : kl (.sl b 0 (n + m) c) (L.set i ⟨b, l.take (n * sz) ++ ys ++ l.drop (n * sz + ys.length), .row e sz c⟩)) : aapp e sz bytes (.sl b 0 n c) x L kl :=
  ⟨m, ys, hs, ho, .inr ⟨i, l, hi, hc, hl, h⟩⟩
theorem a_app00 {e sz bytes : Nat} {x : D} (hs : asrc sz x L 0 []) (h : kl (.val (.slice none 0 0)) L) : aapp e sz bytes .nil x L kl :=
  ⟨0, [], hs, rfl, by omega, h⟩
theorem a_mkS {e sz bytes : Nat} {z : List D} {ki kj : IntKind} {n m : Int} (n' m' : Nat) (e1 : n = n') (e2 : m = m') (h1 : n' ≤ m') (h2 : m' * bytes ≤ 140737488355328) (h3 : m' ≤ 140737488355328)
    (h : ∀ b, kl (.sl b 0 n' m') (⟨b, (List.replicate n' z).flatten, .row e sz m'⟩ :: L)) : amkS e sz bytes z (.val (.int ki n)) (.val (.int kj m)) L kl :=
  ⟨ki, kj, n', m', by rw [e1], by rw [e2], h1, h2, h3, .inl h⟩
theorem a_mkSF {e sz bytes : Nat} {z : List D} {ki kj : IntKind} {n m : Int} (n' m' : Nat) (e1 : n = n') (e2 : m = m') (h1 : n' ≤ m') (h2 : m' * bytes ≤ 140737488355328) (h3 : m' ≤ 140737488355328)
    (h : kl (.row sz (List.replicate n' z)) L) : amkS e sz bytes z (.val (.int ki n)) (.val (.int kj m)) L kl :=
  ⟨ki, kj, n', m', by rw [e1], by rw [e2], h1, h2, h3, .inr h⟩
end
end Go.V
