/- Regions that draw their order: an order in which all that changes own blocks has its place is as good as any. -/
import Derived.Test.YtlonmopppgadgaaDoorA5
set_option linter.unusedVariables false
namespace Go.V
open Go
section
variable {P : Program} {o : Oper}
/-- a word that gives just one value -/
def One (X : (Value → Prop) → Prop) : Prop := ∀ k, X k → ∃ v, k v ∧ ∀ k', k' v → X k'
theorem one_idxS (z : Nat) (x i : Value) : One (idxS z x i) := fun k h => by
  unfold idxS at h; split at h
  · exact ⟨_, h.2.2, fun k' hk => ⟨h.1, h.2.1, hk⟩⟩
  · exact h.elim
theorem one_idxP (n z : Nat) (x i : Value) : One (idxP n z x i) := fun k h => by
  unfold idxP at h; split at h
  · exact ⟨_, h.2.2, fun k' hk => ⟨h.1, h.2.1, hk⟩⟩
  · exact h.elim
theorem one_idxStr (x i : Value) : One (idxStr x i) := fun k h => by
  unfold idxStr at h; split at h
  · obtain ⟨h1, c, h2, h3⟩ := h; exact ⟨_, h3, fun k' hk => ⟨h1, c, h2, hk⟩⟩
  · exact h.elim
theorem one_ar (q : BinOp) (x y : Value) : One (ar q x y) := fun k h => by
  unfold ar at h; split at h
  · cases q <;> simp only at h <;> first
      | exact ⟨_, h.2.2, fun k' hk => ⟨h.1, h.2.1, hk⟩⟩
      | exact ⟨_, h.2, fun k' hk => ⟨h.1, hk⟩⟩
  · cases q <;> simp only at h <;> first
      | exact h.elim
      | exact ⟨_, h, fun k' hk => hk⟩
      | exact ⟨_, h.2, fun k' hk => ⟨h.1, hk⟩⟩
  · exact h.elim
theorem one_arF (q : BinOp) (x y : Value) : One (arF q x y) := fun k h => by
  unfold arF at h; split at h
  · obtain ⟨rfl, h⟩ := h
    cases q <;> simp only at h <;> first
      | exact h.elim
      | exact ⟨_, h, fun k' hk => ⟨rfl, hk⟩⟩
      | (obtain ⟨r, h1, h2⟩ := h; exact ⟨_, h2, fun k' hk => ⟨rfl, r, h1, hk⟩⟩)
  · exact h.elim
theorem one_eqP (q : BinOp) (x y : Value) : One (eqP q x y) := fun k h => by
  unfold eqP at h; split at h
  · cases q <;> simp only at h <;> first
      | exact h.elim
      | exact ⟨_, h, fun k' hk => hk⟩
  · exact h.elim
theorem one_arB (q : BinOp) (x y : Value) : One (arB q x y) := fun k h => by
  unfold arB at h; split at h
  · cases q <;> simp only at h <;> first
      | exact h.elim
      | exact ⟨_, h, fun k' hk => hk⟩
  · exact h.elim
theorem one_eqS (q : BinOp) (x y : Value) : One (eqS q x y) := fun k h => by
  unfold eqS at h; split at h
  · cases q <;> simp only at h <;> first
      | exact h.elim
      | exact ⟨_, h, fun k' hk => hk⟩
  · exact h.elim
theorem one_eqI (q : BinOp) (x y : Value) : One (eqI q x y) := fun k h => by
  unfold eqI at h; split at h
  · cases q <;> simp only at h <;> first
      | exact h.elim
      | exact ⟨_, h, fun k' hk => hk⟩
  · cases q <;> simp only at h <;> first
      | exact h.elim
      | exact ⟨_, h, fun k' hk => hk⟩
  · exact h.elim
theorem one_notb (x : Value) : One (notb x) := fun k h => by
  unfold notb at h; split at h
  · exact ⟨_, h, fun k' hk => hk⟩
  · exact h.elim
theorem one_neg (x : Value) : One (neg x) := fun k h => by
  unfold neg at h; split at h
  · exact ⟨_, h, fun k' hk => hk⟩
  · exact h.elim
theorem one_cvI (a : IntKind) (x : Value) : One (cvI a x) := fun k h => by
  unfold cvI at h; split at h
  · exact ⟨_, h, fun k' hk => hk⟩
  · exact h.elim
theorem one_lenS (x : Value) : One (lenS x) := fun k h => by
  unfold lenS at h; split at h
  · exact ⟨_, h, fun k' hk => hk⟩
  · exact h.elim
theorem one_lenL (x : Value) : One (lenL x) := fun k h => by
  unfold lenL at h; split at h
  · exact ⟨_, h, fun k' hk => hk⟩
  · exact h.elim
theorem one_max2 (x y : Value) : One (max2 x y) := fun k h => by
  unfold max2 at h; split at h
  · obtain ⟨rfl, h⟩ := h
    exact ⟨_, h, fun k' hk => ⟨rfl, hk⟩⟩
  · exact h.elim
theorem one_min2 (x y : Value) : One (min2 x y) := fun k h => by
  unfold min2 at h; split at h
  · obtain ⟨rfl, h⟩ := h
    exact ⟨_, h, fun k' hk => ⟨rfl, hk⟩⟩
  · exact h.elim
theorem one_slcL (z : Nat) (x : Value) (lo hi : Option Value) : One (slcL z x lo hi) := fun k h => by
  unfold slcL at h; split at h
  · obtain ⟨l, q, h1, h2, h3, h4⟩ := h; exact ⟨_, h4, fun k' hk => ⟨l, q, h1, h2, h3, hk⟩⟩
  · exact h.elim
theorem one_slcS (x : Value) (lo hi : Option Value) : One (slcS x lo hi) := fun k h => by
  unfold slcS at h; split at h
  · obtain ⟨l, q, h1, h2, h3, h4⟩ := h; exact ⟨_, h4, fun k' hk => ⟨l, q, h1, h2, h3, hk⟩⟩
  · exact h.elim

/-! ### a word over data gives one thing -/
def AOne (X : (D → Prop) → Prop) : Prop := ∀ k, X k → ∃ d, k d ∧ ∀ k', k' d → X k'
theorem aone_u1 {X : Value → (Value → Prop) → Prop} (h1 : ∀ v, One (X v)) (x : D) : AOne (u1 X x) := fun k h => by
  unfold u1 at h ⊢
  split at h
  · obtain ⟨v, h2, h3⟩ := h1 _ _ h
    exact ⟨.val v, h2, fun k' hk => h3 _ hk⟩
  · exact h.elim
theorem aone_u2 {X : Value → Value → (Value → Prop) → Prop} (h1 : ∀ v u, One (X v u)) (x y : D) : AOne (u2 X x y) := fun k h => by
  unfold u2 at h ⊢
  split at h
  · obtain ⟨v, h2, h3⟩ := h1 _ _ _ h
    exact ⟨.val v, h2, fun k' hk => h3 _ hk⟩
  · exact h.elim
theorem aone_pick (c a b : D) : AOne (apick c a b) := fun k h => by
  unfold apick at h ⊢
  split at h
  · exact ⟨_, h, fun k' hk => hk⟩
  · exact h.elim
theorem aone_ldN (n : Nat) (p : D) (L : List Bx) : AOne (aldN n p L) := fun k h => by
  unfold aldN at h ⊢
  split at h
  · obtain ⟨i, l, kd, m, h1, h2, h3, h4⟩ := h
    exact ⟨_, h4, fun k' hk => ⟨i, l, kd, m, h1, h2, h3, hk⟩⟩
  · obtain ⟨m, h2, h3, h4⟩ := h
    exact ⟨_, h4, fun k' hk => ⟨m, h2, h3, hk⟩⟩
  · exact h.elim
theorem aone_ld1 (p : D) (L : List Bx) : AOne (ald1 p L) := fun k h => by
  unfold ald1 at h ⊢
  split at h
  · obtain ⟨i, l, kd, m, h1, h2, h4⟩ := h
    exact ⟨_, h4, fun k' hk => ⟨i, l, kd, m, h1, h2, hk⟩⟩
  · exact ⟨_, h, fun k' hk => hk⟩
  · exact h.elim
theorem aone_nilc (p : D) : AOne (anilc p) := fun k h => by
  unfold anilc at h ⊢
  split at h
  · exact ⟨_, h, fun k' hk => hk⟩
  · exact ⟨_, h, fun k' hk => hk⟩
  · exact h.elim
theorem aone_fld (f : Nat) (p : D) : AOne (afld f p) := fun k h => by
  unfold afld at h ⊢
  split at h
  · exact ⟨_, h, fun k' hk => hk⟩
  · exact ⟨_, h, fun k' hk => hk⟩
  · exact h.elim
theorem aone_idxS (sz : Nat) (x i : D) : AOne (aidxS sz x i) := fun k h => by
  unfold aidxS at h ⊢
  split at h
  · obtain ⟨h1, h2, e, h3, h4⟩ := h
    exact ⟨_, h4, fun k' hk => ⟨h1, h2, e, h3, hk⟩⟩
  · obtain ⟨v, h2, h3⟩ := one_idxS sz _ _ _ h
    exact ⟨.val v, h2, fun k' hk => h3 _ hk⟩
  · exact h.elim
theorem aone_idxP (n sz : Nat) (x i : D) : AOne (aidxP n sz x i) := fun k h => by
  unfold aidxP at h ⊢
  split at h
  · exact ⟨_, h.2.2, fun k' hk => ⟨h.1, h.2.1, hk⟩⟩
  · obtain ⟨v, h2, h3⟩ := one_idxP n sz _ _ _ h
    exact ⟨.val v, h2, fun k' hk => h3 _ hk⟩
  · exact h.elim
theorem aone_bld (z : List D) (ps : List (Nat × Nat × D)) : AOne (abld z ps) := fun k h => by
  obtain ⟨h1, l, l', h2, hn, h3⟩ := h
  exact ⟨_, h3, fun k' hk => ⟨h1, l, l', h2, hn, hk⟩⟩
theorem aone_bldF (sz n : Nat) (z : List D) (ps : List (Nat × Nat × D)) : AOne (abldF sz n z ps) := fun k h => by
  obtain ⟨h1, l, h2, h3⟩ := h
  exact ⟨_, h3, fun k' hk => ⟨h1, l, h2, hk⟩⟩
theorem aone_field1 (f : Nat) (x : D) : AOne (afield1 f x) := fun k h => by
  unfold afield1 at h ⊢
  split at h
  · obtain ⟨d, h1, h2⟩ := h
    exact ⟨_, h2, fun k' hk => ⟨d, h1, hk⟩⟩
  · exact h.elim
theorem aone_fieldN (f n : Nat) (x : D) : AOne (afieldN f n x) := fun k h => by
  unfold afieldN at h ⊢
  split at h
  · obtain ⟨d, h1, h2⟩ := h
    exact ⟨_, h2, fun k' hk => ⟨d, h1, hk⟩⟩
  · exact h.elim
theorem aone_ext (j : Nat) (x : D) : AOne (aext j x) := fun k h => by
  unfold aext at h ⊢
  split at h
  · obtain ⟨d, h1, h2⟩ := h
    exact ⟨_, h2, fun k' hk => ⟨d, h1, hk⟩⟩
  · exact h.elim
theorem aone_eqS (q : BinOp) (x y : D) : AOne (aeqS true q x y) := fun k h => by
  unfold aeqS at h ⊢
  split at h
  · cases q <;> simp only at h ⊢ <;> first
      | exact h.elim
      | exact ⟨_, h, fun k' hk => hk⟩
  · exact h.elim
  · obtain ⟨v, h2, h3⟩ := one_eqS q _ _ _ h
    exact ⟨.val v, h2, fun k' hk => h3 _ hk⟩
  · exact h.elim
theorem aone_eqI (q : BinOp) (x y : D) : AOne (aeqI q x y) := fun k h => by
  unfold aeqI at h ⊢
  split at h
  · cases q <;> simp only at h ⊢ <;> first
      | exact h.elim
      | exact ⟨_, h, fun k' hk => hk⟩
  · obtain ⟨v, h2, h3⟩ := one_eqI q _ _ _ h
    exact ⟨.val v, h2, fun k' hk => h3 _ hk⟩
  · exact h.elim
theorem aone_lenL (x : D) : AOne (alenL x) := fun k h => by
  unfold alenL at h ⊢
  split at h
  · exact ⟨_, h, fun k' hk => hk⟩
  · obtain ⟨v, h2, h3⟩ := one_lenL _ _ h
    exact ⟨.val v, h2, fun k' hk => h3 _ hk⟩
  · exact h.elim
theorem aone_slcS (x : D) (lo hi : Option D) : AOne (aslcS x lo hi) := fun k h => by
  unfold aslcS at h ⊢
  split at h
  · cases hl : aval lo with
    | none => simp only [hl] at h
    | some l =>
      cases hh : aval hi with
      | none => simp only [hl, hh] at h
      | some q =>
        simp only [hl, hh] at h
        obtain ⟨v, h2, h3⟩ := one_slcS _ _ _ _ h
        refine ⟨.val v, h2, fun k' hk => ?_⟩
        simp only [hl, hh]
        exact h3 _ hk
  · exact h.elim
theorem aone_slcL (sz : Nat) (x : D) (lo hi : Option D) : AOne (aslcL sz x lo hi) := fun k h => by
  unfold aslcL at h ⊢
  split at h
  · obtain ⟨h1, a, b, h2, h3, h4, h5, m, h6, h7⟩ := h
    exact ⟨_, h7, fun k' hk => ⟨h1, a, b, h2, h3, h4, h5, m, h6, hk⟩⟩
  · cases hl : aval lo with
    | none => simp only [hl] at h
    | some l =>
      cases hh : aval hi with
      | none => simp only [hl, hh] at h
      | some q =>
        simp only [hl, hh] at h
        obtain ⟨v, h2, h3⟩ := one_slcL _ _ _ _ _ h
        refine ⟨.val v, h2, fun k' hk => ?_⟩
        simp only [hl, hh]
        exact h3 _ hk
  · exact h.elim
theorem aone_zT {t : TypeId} {X : List Value → (D → Prop) → Prop} (h : ∀ z, AOne (X z)) : AOne (fun k => zT P t fun z => X z k) := fun k hk => by
  obtain ⟨i, z, hi, hz, hk⟩ := zT_spec hk
  obtain ⟨v, h1, h2⟩ := h _ k hk
  exact ⟨v, h1, fun k' hk' => by simp only [zT, hi, hz]; exact h2 k' hk'⟩
theorem aone_zTb {t : TypeId} {B : List Value → Bool} {X : List Value → (D → Prop) → Prop} (h : ∀ z, AOne (X z)) : AOne (fun k => zT P t fun z => bif B z then X z k else False) := fun k hk => by
  obtain ⟨i, z, hi, hz, hk⟩ := zT_spec hk
  rw [Bool.cond_eq_ite] at hk
  split at hk
  · rename_i hb
    obtain ⟨v, h1, h2⟩ := h _ k hk
    refine ⟨v, h1, fun k' hk' => ?_⟩
    simp only [zT, hi, hz, hb, cond_true]
    exact h2 k' hk'
  · exact hk.elim
theorem aone_false : AOne (fun _ => False) := fun _ h => h.elim
theorem aone_bif {b : Bool} {X : (D → Prop) → Prop} (h : AOne X) : AOne (fun k => bif b then X k else False) := by
  cases b
  · exact aone_false
  · exact h
theorem aone_bif2 {b : Bool} {X Y : (D → Prop) → Prop} (h : AOne X) (h' : AOne Y) : AOne (fun k => bif b then X k else Y k) := by
  cases b
  · exact h'
  · exact h

/-- an operation on such operands, wherever they lie -/
def GoA (P : Program) (o : Oper) (ρ : Operand → D) (L : List Bx) (k kp : D → List Bx → Prop) : Prop :=
  ∀ F w (ρc : Operand → Value), AW F L w → (∀ x ∈ o.op.operands.toList, Rep F w (ρ x) (ρc x)) →
    Out P w (fun v w' => ∃ d F' L', k d L' ∧ Ev F L w F' L' w' ∧ AW F' L' w' ∧ Rep F' w' d v) (fun c w' => ∃ d F' L' v, kp d L' ∧ c = [{ v := v, recovered := false }] ∧ Ev F L w F' L' w' ∧ AW F' L' w' ∧ Rep F' w' d v) ((execOp ρc o).run P w)
def SR (ae : AE) (L : List Bx) (d : D) (L' : List Bx) : Prop := ae = .ret d ∧ L' = L
def SP (ae : AE) (L : List Bx) (d : D) (L' : List Bx) : Prop := ae = .pan d ∧ L' = L
def StillA (P : Program) (o : Oper) (ρ : Operand → D) (L : List Bx) (ae : AE) : Prop := GoA P o ρ L (SR ae L) (SP ae L)
theorem Out.mono {w : World} {k k' : Value → World → Prop} {kp kp' : List PanicEntry → World → Prop} {r : Result Next} (h : Out P w k kp r) (hk : ∀ v w', k v w' → k' v w') (hp : ∀ c w', kp c w' → kp' c w') : Out P w k' kp' r :=
  match h with
  | .value v w' h => .value v w' (hk _ _ h)
  | .skip w' h => .skip w' (hk _ _ h)
  | .enter g args h => .enter g args (h.mono fun e w' hh => match e, hh with
    | .returned v, hh => hk _ _ hh
    | .panicked c, hh => hp _ _ hh)
  | .panic v w' h => .panic v w' (hp _ _ h)
theorem GoA.mono {ρ : Operand → D} {L : List Bx} {k k' kp kp' : D → List Bx → Prop} (h : GoA P o ρ L k kp) (hk : ∀ d L', k d L' → k' d L') (hp : ∀ d L', kp d L' → kp' d L') : GoA P o ρ L k' kp' :=
  fun F w ρc aw hr => (h F w ρc aw hr).mono (fun v w' ⟨d, F', L', h1, h2⟩ => ⟨d, F', L', hk _ _ h1, h2⟩) (fun c w' ⟨d, F', L', v, h1, h2⟩ => ⟨d, F', L', v, hp _ _ h1, h2⟩)
theorem GoA.congr {ρ ρ' : Operand → D} {L : List Bx} {k kp : D → List Bx → Prop} (h : GoA P o ρ L k kp) (he : ∀ x ∈ o.op.operands.toList, ρ x = ρ' x) : GoA P o ρ' L k kp :=
  fun F w ρc aw hr => h F w ρc aw fun x hx => by rw [he x hx]; exact hr x hx
theorem goA_of {s : Bool} {ρ : Operand → D} {L : List Bx} {k kp : D → List Bx → Prop} (h : aopK P s o.type o.op ρ L k kp) : GoA P o ρ L k kp :=
  fun F w ρc aw hr => opK_sound (aopK_sound h aw hr (fun d L' v w' F' h1 h2 h3 h4 => ⟨d, F', L', h1, h2, h3, h4⟩) (fun d L' v w' F' h1 h2 h3 h4 => ⟨d, F', L', v, h1, rfl, h2, h3, h4⟩))
theorem aone_eqP (q : BinOp) (x y : D) : AOne (aeqP q x y) := fun k h => by
  unfold aeqP at h; split at h
  · cases q <;> simp only at h <;> first
      | exact h.elim
      | exact ⟨_, h, fun k' hk => hk⟩
  · obtain ⟨v, h1, h2⟩ := one_eqP q _ _ _ h
    exact ⟨.val v, h1, fun k' hk => h2 (fun r => k' (.val r)) hk⟩
  · exact h.elim
theorem aone_tas (t : TypeId) (z x : D) (ok : Bool) : AOne (atas t z x ok) := fun k h => by
  unfold atas at h; split at h
  · rw [Bool.cond_eq_ite] at h
    split at h
    · rename_i he
      exact ⟨_, h, fun k' hk => by show (bif Nat.beq _ t then k' _ else (bif ok then k' _ else False)); rw [Bool.cond_eq_ite, if_pos he]; exact hk⟩
    · rename_i he
      cases ok
      · exact h.elim
      · exact ⟨_, h, fun k' hk => by show (bif Nat.beq _ t then k' _ else (bif true then k' _ else False)); rw [Bool.cond_eq_ite, if_neg he]; exact hk⟩
  · cases ok
    · exact h.elim
    · exact ⟨_, h, fun k' hk => hk⟩
  · exact h.elim
theorem aone_lkM (kt : TypeId) (ok : Bool) (z x i : D) (L : List Bx) : AOne (alkM P kt ok z x i L) := fun k h => by
  unfold alkM at h; split at h
  · obtain ⟨j, es, K, key, hj, mk, hK, hkey, hkk, ⟨d, hd, h⟩ | ⟨hno, h⟩⟩ := h
    · exact ⟨_, h, fun k' hk => ⟨j, es, K, key, hj, mk, hK, hkey, hkk, .inl ⟨d, hd, hk⟩⟩⟩
    · exact ⟨_, h, fun k' hk => ⟨j, es, K, key, hj, mk, hK, hkey, hkk, .inr ⟨hno, hk⟩⟩⟩
  · exact h.elim
theorem aone_zVb {t : TypeId} {B : Value → Bool} {X : Value → (D → Prop) → Prop} (h : ∀ z, AOne (X z)) : AOne (fun k => zV P t fun z => bif B z then X z k else False) := fun k hk => by
  unfold zV at hk
  split at hk
  · rename_i i hi
    split at hk
    · rename_i z hz
      rw [Bool.cond_eq_ite] at hk
      split at hk
      · rename_i hb
        obtain ⟨d, h1, h2⟩ := h z _ hk
        refine ⟨d, h1, fun k' hk' => ?_⟩
        simp only [zV, hi, hz, hb, cond_true]
        exact h2 _ hk'
      · exact hk.elim
    · exact hk.elim
  · exact hk.elim
/-- what may be done at any time gives one thing -/
theorem aone {ty : TypeId} {op : Op} {ρ : Operand → D} {L : List Bx} {k kp : D → List Bx → Prop} (h : aopK P true ty op ρ L k kp) :
    ∃ ae : AE, aopK P true ty op ρ L (SR ae L) (SP ae L) ∧ (match ae with | .ret d => k d L | .pan d => kp d L) := by
  have pu : ∀ {X : (D → Prop) → Prop}, AOne X → X (fun d => k d L) → ∃ ae : AE, X (fun d => SR ae L d L) ∧ (match ae with | .ret d => k d L | .pan d => kp d L) := fun {X} h1 h2 => by
    obtain ⟨d, h3, h4⟩ := h1 _ h2
    exact ⟨.ret d, h4 _ ⟨rfl, rfl⟩, h3⟩
  cases op with
  | move x => exact ⟨.ret (ρ x), ⟨rfl, rfl⟩, h⟩
  | assign x => exact ⟨.ret (ρ x), ⟨rfl, rfl⟩, h⟩
  | pick c x y => exact pu (aone_pick _ _ _) h
  | build t ps =>
    simp only [aopK] at h ⊢
    cases hu : P.underlying t with
    | none => simp only [hu] at h
    | some d =>
      cases d <;> simp only [hu] at h ⊢ <;> first
        | exact h.elim
        | exact pu (aone_zTb (X := fun z => abld (vals z) (apartsT P t ρ ps.toList)) fun z => aone_bld _ _) h
  | buildSlice t n ps =>
    simp only [aopK, cond_true] at h ⊢
    cases hu : P.underlying t with
    | none => simp only [hu] at h
    | some d =>
      cases d <;> simp only [hu] at h ⊢ <;> try exact h.elim
      rename_i e
      exact pu (aone_zTb (X := fun z => abldF (sizeT P e) n (vals (reps n z)) (apartsT P t ρ ps.toList)) fun z => aone_bldF _ _ _ _) h
  | load t x =>
    simp only [aopK] at h ⊢
    cases hu : P.underlying t with
    | none => simp only [hu] at h
    | some d =>
      simp only [hu] at h ⊢
      exact pu (X := fun k => bif isAgg d then aldN (sizeT P t) (ρ x) L k else ald1 (ρ x) L k) (aone_bif2 (aone_ldN _ _ _) (aone_ld1 _ _)) h
  | nilCheck x => exact pu (aone_nilc _) h
  | binOp q t x y u =>
    simp only [aopK] at h ⊢
    cases hu : P.underlying t with
    | none => simp only [hu] at h
    | some d =>
      cases d <;> simp only [hu] at h ⊢ <;> first
        | exact h.elim
        | exact pu (aone_u2 (one_ar q) _ _) h
        | exact pu (aone_u2 (one_arB q) _ _) h
        | exact pu (aone_u2 (one_arF q) _ _) h
        | exact pu (aone_eqP q _ _) h
        | exact pu (aone_eqS q _ _) h
        | (cases y with
           | const c => exact pu (aone_eqI q _ _) h
           | _ => exact h.elim)
  | unOp q t x =>
    simp only [aopK] at h ⊢
    cases q <;> simp only at h ⊢ <;> first
      | exact h.elim
      | exact pu (aone_u1 one_notb _) h
      | exact pu (aone_u1 one_neg _) h
  | convert s' d x =>
    simp only [aopK] at h ⊢
    cases hs : P.underlying s' with
    | none => simp only [hs] at h
    | some u =>
      cases hd : P.underlying d with
      | none => simp only [hs, hd] at h
      | some v =>
        cases v <;> simp only [hs, hd] at h ⊢ <;> first
          | exact h.elim
          | exact pu (aone_u1 (one_cvI _) _) h
  | makeMap t r => cases r <;> exact h.elim
  | typeAssert x xt t ok =>
    simp only [aopK] at h ⊢
    cases hu : P.underlying t with
    | none => simp only [hu] at h
    | some d =>
      cases d <;> simp only [hu] at h ⊢ <;> first
        | exact h.elim
        | exact pu (aone_zVb (B := zvOk) (X := fun z => atas t (dz z) (ρ x) ok) fun z => aone_tas _ _ _ _) h
  | lookup t x i ok =>
    simp only [aopK] at h ⊢
    cases hu : P.underlying t with
    | none => simp only [hu] at h
    | some d =>
      cases d <;> simp only [hu] at h ⊢ <;> try exact h.elim
      exact pu (aone_zVb (B := zvOk) (X := fun z => alkM P _ ok (dz z) (ρ x) (ρ i) L) fun z => aone_lkM _ _ _ _ _ _) h
  | makeFunc fn first cap =>
    simp only [aopK] at h ⊢
    cases fn <;> simp only at h ⊢ <;> first
      | exact h.elim
      | exact ⟨.ret _, ⟨rfl, rfl⟩, h⟩
  | fieldAddr s' x f =>
    simp only [aopK] at h ⊢
    cases hu : P.underlying s' with
    | none => simp only [hu] at h
    | some d =>
      cases d <;> simp only [hu] at h ⊢ <;> try exact h.elim
      split at h
      · rename_i hf
        exact pu (X := fun k => bif _ then afld _ (ρ x) k else False) (aone_bif (aone_fld _ _)) h
      · exact h.elim
  | field t x f =>
    simp only [aopK] at h ⊢
    cases hu : P.underlying t with
    | none => simp only [hu] at h
    | some d =>
      cases d <;> simp only [hu] at h ⊢ <;> try exact h.elim
      split at h
      · rename_i hf
        split at h
        · rename_i hf2
          exact pu (X := fun k => bif _ then afieldN _ _ (ρ x) k else afield1 _ (ρ x) k) (aone_bif2 (aone_fieldN _ _ _) (aone_field1 _ _)) h
        · exact h.elim
      · exact h.elim
  | indexAddr t x i =>
    simp only [aopK] at h ⊢
    cases hu : P.underlying t with
    | none => simp only [hu] at h
    | some d =>
      cases d <;> simp only [hu] at h ⊢ <;> first
        | exact h.elim
        | exact pu (X := fun k => bif _ then aidxS _ (ρ x) (ρ i) k else False) (aone_bif (aone_idxS _ _ _)) h
        | exact pu (X := fun k => bif _ then aidxP _ _ (ρ x) (ρ i) k else False) (aone_bif (aone_idxP _ _ _ _)) h
  | index t x i =>
    simp only [aopK] at h ⊢
    cases hu : P.underlying t with
    | none => simp only [hu] at h
    | some d =>
      cases d <;> simp only [hu] at h ⊢ <;> first
        | exact h.elim
        | exact pu (aone_u2 one_idxStr _ _) h
  | extract x j => exact pu (aone_ext _ _) h
  | slice t x lo hi mx =>
    cases mx with
    | some m => exact h.elim
    | none =>
      simp only [aopK] at h ⊢
      cases hu : P.underlying t with
      | none => simp only [hu] at h
      | some d =>
        cases d <;> simp only [hu] at h ⊢ <;> first
          | exact h.elim
          | exact pu (aone_slcS _ _ _) h
          | exact pu (X := fun k => bif _ then aslcL _ (ρ x) (lo.map ρ) (hi.map ρ) k else False) (aone_bif (aone_slcL _ _ _ _)) h
  | makeInterface t x =>
    simp only [aopK] at h ⊢
    cases hu : P.underlying t with
    | none => simp only [hu] at h
    | some d =>
      cases d <;> simp only [hu] at h ⊢ <;> first
        | exact h.elim
        | exact ⟨.ret _, ⟨rfl, rfl⟩, h⟩
  | panic x =>
    simp only [aopK] at h ⊢
    split at h
    · exact ⟨.pan _, ⟨rfl, rfl⟩, h⟩
    · exact h.elim
  | call c =>
    simp only [aopK] at h ⊢
    obtain ⟨cal, args, tys⟩ := c
    cases cal with
    | value f =>
      simp only at h ⊢
      unfold acallF at h ⊢
      split at h
      · simp only [cond_true] at h ⊢
        obtain ⟨ae, h1, h2⟩ := h
        refine ⟨ae, ⟨ae, h1, ?_⟩, h2⟩
        cases ae
        · exact ⟨rfl, rfl⟩
        · exact ⟨rfl, rfl⟩
      · exact h.elim
    | builtin b =>
      simp only at h ⊢
      split at h
      · split at h
        · exact pu (aone_u1 one_lenS _) h
        · exact pu (aone_lenL _) h
        · exact h.elim
      · exact pu (aone_u2 one_max2 _ _) h
      · exact pu (aone_u2 one_min2 _ _) h
      · exact h.elim
      · exact h.elim
      · exact h.elim
    | invoke r m => exact h.elim
  | _ => exact h.elim
/-- what looks at no own block gives the same whatever they are -/
theorem aonep {ty : TypeId} {op : Op} {ρ : Operand → D} {L : List Bx} {k kp : D → List Bx → Prop} (hpu : pureOp op = true) (h : aopK P true ty op ρ L k kp) :
    ∃ d, (∀ L', aopK P true ty op ρ L' (SR (.ret d) L') (SP (.ret d) L')) ∧ k d L := by
  have pu : ∀ {X : (D → Prop) → Prop}, AOne X → X (fun d => k d L) → ∃ d : D, (∀ L', X (fun q => SR (.ret d) L' q L')) ∧ k d L := fun {X} h1 h2 => by
    obtain ⟨d, h3, h4⟩ := h1 _ h2
    exact ⟨d, fun L' => h4 _ ⟨rfl, rfl⟩, h3⟩
  cases op with
  | move x => exact ⟨ρ x, fun _ => ⟨rfl, rfl⟩, h⟩
  | assign x => exact ⟨ρ x, fun _ => ⟨rfl, rfl⟩, h⟩
  | pick c x y => exact pu (aone_pick _ _ _) h
  | build t ps =>
    simp only [aopK] at h ⊢
    cases hu : P.underlying t with
    | none => simp only [hu] at h
    | some d =>
      cases d <;> simp only [hu] at h ⊢ <;> first
        | exact h.elim
        | exact pu (aone_zTb (X := fun z => abld (vals z) (apartsT P t ρ ps.toList)) fun z => aone_bld _ _) h
  | buildSlice t n ps =>
    simp only [aopK, cond_true] at h ⊢
    cases hu : P.underlying t with
    | none => simp only [hu] at h
    | some d =>
      cases d <;> simp only [hu] at h ⊢ <;> try exact h.elim
      rename_i e
      exact pu (aone_zTb (X := fun z => abldF (sizeT P e) n (vals (reps n z)) (apartsT P t ρ ps.toList)) fun z => aone_bldF _ _ _ _) h
  | load t x => cases hpu
  | nilCheck x => exact pu (aone_nilc _) h
  | binOp q t x y u =>
    simp only [aopK] at h ⊢
    cases hu : P.underlying t with
    | none => simp only [hu] at h
    | some d =>
      cases d <;> simp only [hu] at h ⊢ <;> first
        | exact h.elim
        | exact pu (aone_u2 (one_ar q) _ _) h
        | exact pu (aone_u2 (one_arB q) _ _) h
        | exact pu (aone_u2 (one_arF q) _ _) h
        | exact pu (aone_eqP q _ _) h
        | exact pu (aone_eqS q _ _) h
        | (cases y with
           | const c => exact pu (aone_eqI q _ _) h
           | _ => exact h.elim)
  | unOp q t x =>
    simp only [aopK] at h ⊢
    cases q <;> simp only at h ⊢ <;> first
      | exact h.elim
      | exact pu (aone_u1 one_notb _) h
      | exact pu (aone_u1 one_neg _) h
  | convert s' d x =>
    simp only [aopK] at h ⊢
    cases hs : P.underlying s' with
    | none => simp only [hs] at h
    | some u =>
      cases hd : P.underlying d with
      | none => simp only [hs, hd] at h
      | some v =>
        cases v <;> simp only [hs, hd] at h ⊢ <;> first
          | exact h.elim
          | exact pu (aone_u1 (one_cvI _) _) h
  | makeMap t r => cases hpu
  | lookup t x i ok => cases hpu
  | typeAssert x xt t ok =>
    simp only [aopK] at h ⊢
    cases hu : P.underlying t with
    | none => simp only [hu] at h
    | some d =>
      cases d <;> simp only [hu] at h ⊢ <;> first
        | exact h.elim
        | exact pu (aone_zVb (B := zvOk) (X := fun z => atas t (dz z) (ρ x) ok) fun z => aone_tas _ _ _ _) h
  | makeFunc fn first cap =>
    simp only [aopK] at h ⊢
    cases fn <;> simp only at h ⊢ <;> first
      | exact h.elim
      | exact ⟨_, fun _ => ⟨rfl, rfl⟩, h⟩
  | fieldAddr s' x f =>
    simp only [aopK] at h ⊢
    cases hu : P.underlying s' with
    | none => simp only [hu] at h
    | some d =>
      cases d <;> simp only [hu] at h ⊢ <;> try exact h.elim
      split at h
      · rename_i hf
        exact pu (X := fun k => bif _ then afld _ (ρ x) k else False) (aone_bif (aone_fld _ _)) h
      · exact h.elim
  | field t x f =>
    simp only [aopK] at h ⊢
    cases hu : P.underlying t with
    | none => simp only [hu] at h
    | some d =>
      cases d <;> simp only [hu] at h ⊢ <;> try exact h.elim
      split at h
      · rename_i hf
        split at h
        · rename_i hf2
          exact pu (X := fun k => bif _ then afieldN _ _ (ρ x) k else afield1 _ (ρ x) k) (aone_bif2 (aone_fieldN _ _ _) (aone_field1 _ _)) h
        · exact h.elim
      · exact h.elim
  | indexAddr t x i =>
    simp only [aopK] at h ⊢
    cases hu : P.underlying t with
    | none => simp only [hu] at h
    | some d =>
      cases d <;> simp only [hu] at h ⊢ <;> first
        | exact h.elim
        | exact pu (X := fun k => bif _ then aidxS _ (ρ x) (ρ i) k else False) (aone_bif (aone_idxS _ _ _)) h
        | exact pu (X := fun k => bif _ then aidxP _ _ (ρ x) (ρ i) k else False) (aone_bif (aone_idxP _ _ _ _)) h
  | index t x i =>
    simp only [aopK] at h ⊢
    cases hu : P.underlying t with
    | none => simp only [hu] at h
    | some d =>
      cases d <;> simp only [hu] at h ⊢ <;> first
        | exact h.elim
        | exact pu (aone_u2 one_idxStr _ _) h
  | extract x j => exact pu (aone_ext _ _) h
  | slice t x lo hi mx =>
    cases mx with
    | some m => exact h.elim
    | none =>
      simp only [aopK] at h ⊢
      cases hu : P.underlying t with
      | none => simp only [hu] at h
      | some d =>
        cases d <;> simp only [hu] at h ⊢ <;> first
          | exact h.elim
          | exact pu (aone_slcS _ _ _) h
          | exact pu (X := fun k => bif _ then aslcL _ (ρ x) (lo.map ρ) (hi.map ρ) k else False) (aone_bif (aone_slcL _ _ _ _)) h
  | makeInterface t x =>
    simp only [aopK] at h ⊢
    cases hu : P.underlying t with
    | none => simp only [hu] at h
    | some d =>
      cases d <;> simp only [hu] at h ⊢ <;> first
        | exact h.elim
        | exact ⟨_, fun _ => ⟨rfl, rfl⟩, h⟩
  | panic x => cases hpu
  | call c =>
    simp only [aopK] at h ⊢
    obtain ⟨cal, args, tys⟩ := c
    cases cal with
    | value f => cases hpu
    | builtin b =>
      simp only at h ⊢
      split at h
      · split at h
        · exact pu (aone_u1 one_lenS _) h
        · exact pu (aone_lenL _) h
        · exact h.elim
      · exact pu (aone_u2 one_max2 _ _) h
      · exact pu (aone_u2 one_min2 _ _) h
      · exact h.elim
      · exact h.elim
      · exact h.elim
    | invoke r m => exact h.elim
  | _ => exact h.elim
end
end Go.V
