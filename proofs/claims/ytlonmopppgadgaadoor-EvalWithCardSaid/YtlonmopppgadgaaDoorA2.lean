/- What is said of one operation over data is so of values in memory. -/
import Derived.Test.YtlonmopppgadgaaDoorA1
set_option linter.unusedVariables false
namespace Go.V
open Go

/-! ### plain values -/
def M1 (X : Value → (Value → Prop) → Prop) : Prop := ∀ v k k', Okv v → (∀ r, Okv r → k r → k' r) → X v k → X v k'
def M2 (X : Value → Value → (Value → Prop) → Prop) : Prop := ∀ v u k k', Okv v → Okv u → (∀ r, Okv r → k r → k' r) → X v u k → X v u k'
theorem wrap_rng (a : IntKind) (n : Int) : -(loN a : Int) ≤ a.wrap n ∧ a.wrap n ≤ hiN a := by
  unfold IntKind.wrap
  cases a <;> simp [IntKind.bits, IntKind.signed, loN, hiN] <;> first
    | omega
    | (split <;> omega)
theorem okv_wrap (a : IntKind) (n : Int) : Okv (.int a (a.wrap n)) := wrap_rng a n
theorem okv_tmod {a : IntKind} {m : Int} (n : Int) (h : Okv (.int a m)) : Okv (.int a (m.tmod n)) := by
  have h : -(loN a : Int) ≤ m ∧ m ≤ hiN a := h
  show -(loN a : Int) ≤ m.tmod n ∧ m.tmod n ≤ hiN a
  have h1 : (m.tmod n).natAbs ≤ m.natAbs := by rw [Int.natAbs_tmod]; exact Nat.mod_le _ _
  rcases Int.le_total 0 m with h0 | h0
  · have := Int.tmod_nonneg n h0
    omega
  · have h2 : 0 ≤ (-m).tmod n := Int.tmod_nonneg n (by omega)
    rw [Int.neg_tmod] at h2
    omega
theorem okv_shr {a : IntKind} {m : Int} (s : Nat) (h : Okv (.int a m)) : Okv (.int a (m.fdiv (2 ^ s))) := by
  have h : -(loN a : Int) ≤ m ∧ m ≤ hiN a := h
  show -(loN a : Int) ≤ m.fdiv (2 ^ s) ∧ m.fdiv (2 ^ s) ≤ hiN a
  have hp : (0 : Int) < 2 ^ s := Int.pow_pos (by decide)
  rw [Int.fdiv_eq_ediv_of_nonneg _ (by omega)]
  have hl : (loN a : Int) ≥ 0 := by omega
  rcases Int.le_total 0 m with h0 | h0
  · have h1 := Int.ediv_nonneg h0 (Int.le_of_lt hp)
    have h2 := Int.ediv_le_self (2 ^ s) h0
    omega
  · have h1 : m ≤ m / 2 ^ s := (Int.le_ediv_iff_mul_le hp).2 (by
      have := Int.mul_le_mul_of_nonneg_left (a := 1) (b := 2 ^ s) (c := -m) (by omega) (by omega)
      rw [Int.mul_one, Int.neg_mul] at this
      omega)
    have h2 : m / 2 ^ s ≤ 0 := Int.ediv_nonpos_of_nonpos_of_neg h0 hp
    omega
theorem okv_bits (q : BinOp) (a : IntKind) (m n : Int) : Okv (.int a (bitsI q a m n)) := by
  unfold bitsI
  split <;> exact okv_wrap a _
theorem m_notb : M1 notb := fun v k k' _ hk h => by
  unfold notb at h ⊢
  split at h
  · exact hk _ trivial h
  · exact h.elim
theorem m_neg : M1 neg := fun v k k' _ hk h => by
  unfold neg at h ⊢
  split at h
  · exact hk _ (okv_wrap _ _) h
  · exact h.elim
theorem m_cvI (a : IntKind) : M1 (cvI a) := fun v k k' _ hk h => by
  unfold cvI at h ⊢
  split at h
  · exact hk _ (okv_wrap _ _) h
  · exact h.elim
theorem m_lenS : M1 lenS := fun v k k' hv hk h => by
  unfold lenS at h ⊢
  split at h
  · refine hk _ ?_ h
    simp only [Okv, loN, hiN] at hv ⊢
    omega
  · exact h.elim
theorem m_lenL : M1 lenL := fun v k k' hv hk h => by
  unfold lenL at h ⊢
  split at h
  · refine hk _ ?_ h
    simp only [Okv, loN, hiN] at hv ⊢
    omega
  · exact h.elim
theorem m_max2 : M2 max2 := fun v u k k' hv hu hk h => by
  unfold max2 at h ⊢
  split at h
  · obtain ⟨rfl, h⟩ := h
    refine ⟨rfl, hk _ ?_ h⟩
    split
    · exact hu
    · exact hv
  · exact h.elim
theorem m_min2 : M2 min2 := fun v u k k' hv hu hk h => by
  unfold min2 at h ⊢
  split at h
  · obtain ⟨rfl, h⟩ := h
    refine ⟨rfl, hk _ ?_ h⟩
    split
    · exact hu
    · exact hv
  · exact h.elim
theorem m_ar (op : BinOp) : M2 (ar op) := fun v u k k' hv hu hk h => by
  unfold ar at h ⊢
  split at h
  · cases op <;> simp only at h ⊢ <;> first
      | exact ⟨h.1, hk _ trivial h.2⟩
      | exact ⟨h.1, hk _ (okv_wrap _ _) h.2⟩
      | exact ⟨h.1, hk _ (okv_bits _ _ _ _) h.2⟩
      | exact ⟨h.1, h.2.1, hk _ (okv_wrap _ _) h.2.2⟩
      | exact ⟨h.1, h.2.1, hk _ (okv_tmod _ hv) h.2.2⟩
      | exact ⟨h.1, hk _ (okv_shr _ hv) h.2⟩
  · cases op <;> simp only at h ⊢ <;> first | exact h.elim | exact hk _ trivial h | skip
    refine ⟨h.1, hk _ ?_ h.2⟩
    simp only [Okv, ByteArray.size_append]
    exact h.1
  · exact h.elim
theorem m_arF (op : BinOp) : M2 (arF op) := fun v u k k' hv hu hk h => by
  unfold arF at h ⊢
  split at h
  · obtain ⟨h1, h2⟩ := h
    refine ⟨h1, ?_⟩
    cases op <;> simp only at h2 ⊢ <;> first | exact h2.elim | exact hk _ trivial h2 | (obtain ⟨r, h3, h4⟩ := h2; exact ⟨r, h3, hk _ trivial h4⟩)
  · exact h.elim
theorem m_eqP (op : BinOp) : M2 (eqP op) := fun v u k k' hv hu hk h => by
  unfold eqP at h ⊢
  split at h
  · cases op <;> simp only at h ⊢ <;> first | exact h.elim | exact hk _ trivial h
  · exact h.elim
theorem m_arB (op : BinOp) : M2 (arB op) := fun v u k k' hv hu hk h => by
  unfold arB at h ⊢
  split at h
  · cases op <;> simp only at h ⊢ <;> first | exact h.elim | exact hk _ trivial h
  · exact h.elim
theorem m_eqS (op : BinOp) : M2 (eqS op) := fun v u k k' hv hu hk h => by
  unfold eqS at h ⊢
  split at h
  · cases op <;> simp only at h ⊢ <;> first | exact h.elim | exact hk _ trivial h
  · exact h.elim
theorem m_eqI (op : BinOp) : M2 (eqI op) := fun v u k k' hv hu hk h => by
  unfold eqI at h ⊢
  split at h
  · cases op <;> simp only at h ⊢ <;> first | exact h.elim | exact hk _ trivial h
  · cases op <;> simp only at h ⊢ <;> first | exact h.elim | exact hk _ trivial h
  · exact h.elim
theorem m_idxStr : M2 idxStr := fun v u k k' hv hu hk h => by
  unfold idxStr at h ⊢
  split at h
  · obtain ⟨h1, c, h2, h3⟩ := h
    refine ⟨h1, c, h2, hk _ ?_ h3⟩
    have := UInt8.toNat_lt c
    simp only [Okv, loN, hiN]
    omega
  · exact h.elim
theorem m_idxS (sz : Nat) : M2 (idxS sz) := fun v u k k' hv hu hk h => by
  unfold idxS at h ⊢
  split at h
  · exact ⟨h.1, h.2.1, hk _ trivial h.2.2⟩
  · exact h.elim
theorem m_idxP (n sz : Nat) : M2 (idxP n sz) := fun v u k k' hv hu hk h => by
  unfold idxP at h ⊢
  split at h
  · exact ⟨h.1, h.2.1, hk _ trivial h.2.2⟩
  · exact h.elim
theorem m_slcS (lo hi : Option Value) : M1 (slcS · lo hi) := fun v k k' hv hk h => by
  unfold slcS at h ⊢
  simp only at h ⊢
  split at h
  · rename_i s
    obtain ⟨l, q, h1, h2, h3, h4⟩ := h
    refine ⟨l, q, h1, h2, h3, hk _ ?_ h4⟩
    simp only [Okv, ByteArray.size_extract] at hv ⊢
    omega
  · exact h.elim
theorem m_slcL (sz : Nat) (lo hi : Option Value) : M1 (slcL sz · lo hi) := fun v k k' hv hk h => by
  unfold slcL at h ⊢
  simp only at h ⊢
  split at h
  · rename_i a n c
    obtain ⟨l, q, h1, h2, h3, h4⟩ := h
    refine ⟨l, q, h1, h2, h3, hk _ ?_ h4⟩
    simp only [Okv] at hv ⊢
    have : q ≤ c := by
      split at h1
      · rw [h1]; exact hv.1
      · obtain ⟨_, _, h⟩ := h1; exact h
    omega
  · exact h.elim

section
variable {F : Nat → Prop} {w : World} {L : List Bx}
theorem u1_ok {X : Value → (Value → Prop) → Prop} (m : M1 X) {x : D} {v : Value} {k : D → Prop} {kc : Value → Prop} (h : u1 X x k) (hx : Rep F w x v) (hk : ∀ d r, k d → Rep F w d r → kc r) : X v kc := by
  unfold u1 at h
  split at h
  · rw [Rep] at hx
    obtain ⟨rfl, ho⟩ := hx
    exact m _ _ _ ho (fun r hr hk' => hk _ r hk' (by rw [Rep]; exact ⟨rfl, hr⟩)) h
  · exact h.elim
theorem u2_ok {X : Value → Value → (Value → Prop) → Prop} (m : M2 X) {x y : D} {v u : Value} {k : D → Prop} {kc : Value → Prop} (h : u2 X x y k) (hx : Rep F w x v) (hy : Rep F w y u) (hk : ∀ d r, k d → Rep F w d r → kc r) : X v u kc := by
  unfold u2 at h
  split at h
  · rw [Rep] at hx hy
    obtain ⟨rfl, ho⟩ := hx
    obtain ⟨rfl, ho'⟩ := hy
    exact m _ _ _ _ ho ho' (fun r hr hk' => hk _ r hk' (by rw [Rep]; exact ⟨rfl, hr⟩)) h
  · exact h.elim
theorem rep_val {v : Value} (h : Okv v) : Rep F w (.val v) v := by rw [Rep]; exact ⟨rfl, h⟩
theorem rep_val_iff {v u : Value} : Rep F w (.val v) u ↔ u = v ∧ Okv v := by rw [Rep]

/-! ### the words -/
theorem apick_ok {c a b : D} {vc va vb : Value} {k : D → Prop} {kc : Value → Prop} (h : apick c a b k) (hc : Rep F w c vc) (ha : Rep F w a va) (hb : Rep F w b vb) (hk : ∀ d r, k d → Rep F w d r → kc r) : pick vc va vb kc := by
  unfold apick at h
  split at h
  · rename_i t
    obtain ⟨rfl, _⟩ := rep_val_iff.1 hc
    cases t
    · exact hk _ _ h hb
    · exact hk _ _ h ha
  · exact h.elim
theorem aldN_ok {n : Nat} {p : D} {v : Value} {k : D → Prop} {kc : Value → Prop} (h : aldN n p L k) (a : AW F L w) (hp : Rep F w p v) (hk : ∀ d r, k d → Rep F w d r → kc r) : ldN n v w kc := by
  unfold aldN at h
  split at h
  · rename_i b o
    obtain ⟨rfl, _⟩ := rep_val_iff.1 hp
    obtain ⟨i, l, kd, m, hi, hm, hn, hk'⟩ := h
    have hle : o + n ≤ l.length ∨ n = 0 := by
      have := congrArg List.length hm
      simp at this
      omega
    rcases hle with hle | rfl
    · obtain ⟨vs, h1, h2, h3⟩ := (a.at hi).cells o n hle
      simp only at h1 h3
      rw [hm] at h1
      exact ⟨vs, h2, h3, hk _ _ hk' (by rw [Rep]; exact ⟨vs, rfl, h1⟩)⟩
    · refine ⟨[], rfl, fun i hi => by simp at hi, hk _ _ hk' ?_⟩
      rw [Rep]
      refine ⟨[], rfl, ?_⟩
      rw [List.take_zero] at hm
      rw [← hm]; exact reps_nil
  · rename_i l
    obtain ⟨m, hm, hn, hk'⟩ := h
    rw [Rep] at hp
    obtain ⟨b, o, vs, rfl, hf, hb, hr, hc⟩ := hp
    have hr' := hr.take n
    rw [hm] at hr'
    exact ⟨vs.take n, by rw [hr'.length]; exact hn, hc.take n, hk _ _ hk' (by rw [Rep]; exact ⟨_, rfl, hr'⟩)⟩
  · exact h.elim
theorem ald1_ok {p : D} {v : Value} {k : D → Prop} {kc : Value → Prop} (h : ald1 p L k) (a : AW F L w) (hp : Rep F w p v) (hk : ∀ d r, k d → Rep F w d r → kc r) : ld1 v w kc := by
  unfold ald1 at h
  split at h
  · rename_i b o
    obtain ⟨rfl, _⟩ := rep_val_iff.1 hp
    obtain ⟨i, l, kd, d, hi, hd, hk'⟩ := h
    obtain ⟨v, h1, h2⟩ := (a.at hi).cell hd
    exact ⟨v, h1, hk _ _ hk' h2⟩
  · rename_i d l
    rw [Rep] at hp
    obtain ⟨b, o, vs, rfl, hf, hb, hr, hc⟩ := hp
    rw [Reps] at hr
    obtain ⟨v, r, rfl, h1, h2⟩ := hr
    refine ⟨v, ?_, hk _ _ h h1⟩
    have := hc 0 (by simp)
    rw [add_plain] at this
    simpa using this
  · exact h.elim
theorem anilc_ok {p : D} {v : Value} {k : D → Prop} {kc : Value → Prop} (h : anilc p k) (hp : Rep F w p v) (hk : ∀ d r, k d → Rep F w d r → kc r) : nilc v kc := by
  unfold anilc at h
  split at h
  · have hp' := hp
    obtain ⟨rfl, _⟩ := rep_val_iff.1 hp
    exact hk _ _ h hp'
  · have hp' := hp
    rw [Rep] at hp
    obtain ⟨b, o, vs, rfl, _⟩ := hp
    exact hk _ _ h hp'
  · exact h.elim
theorem rep_pin_drop {l : List D} {b o : Nat} {vs : List Value} (n : Nat) (hf : F b) (hb : b < w.heap.size) (hr : Reps F w l vs) (hc : Cells w ⟨b, o, none⟩ vs) : Rep F w (.pin (l.drop n)) (.pointer (some ⟨b, o + n, none⟩)) := by
  rw [Rep]
  exact ⟨b, o + n, vs.drop n, rfl, hf, hb, hr.drop n, hc.drop n⟩
theorem afld_ok {f : Nat} {p : D} {v : Value} {k : D → Prop} {kc : Value → Prop} (h : afld f p k) (hp : Rep F w p v) (hk : ∀ d r, k d → Rep F w d r → kc r) : fld f v kc := by
  unfold afld at h
  split at h
  · obtain ⟨rfl, _⟩ := rep_val_iff.1 hp
    exact hk _ _ h (rep_val trivial)
  · rw [Rep] at hp
    obtain ⟨b, o, vs, rfl, hf, hb, hr, hc⟩ := hp
    exact hk _ _ h (rep_pin_drop f hf hb hr hc)
  · exact h.elim
theorem aidxS_ok {sz : Nat} {x i : D} {v u : Value} {k : D → Prop} {kc : Value → Prop} (h : aidxS sz x i k) (hx : Rep F w x v) (hi : Rep F w i u) (hk : ∀ d r, k d → Rep F w d r → kc r) : idxS sz v u kc := by
  unfold aidxS at h
  split at h
  · rename_i z l ki j
    obtain ⟨rfl, _⟩ := rep_val_iff.1 hi
    obtain ⟨rfl, hj, e, he, hk'⟩ := h
    rw [Rep] at hx
    obtain ⟨p, c, rfl, hc, rfl | ⟨b, o, rfl, hf, hb, hr⟩⟩ := hx
    · simp at he
    · obtain ⟨vs, h1, h2, h3⟩ := hr.get he
      have hlt := (List.getElem?_eq_some_iff.1 he).1
      refine ⟨hj, by omega, hk _ _ hk' ?_⟩
      rw [Rep]
      exact ⟨b, _, vs, rfl, hf, hb, h1, h3⟩
  · obtain ⟨rfl, h1⟩ := rep_val_iff.1 hx
    obtain ⟨rfl, h2⟩ := rep_val_iff.1 hi
    exact m_idxS sz _ _ _ _ h1 h2 (fun r hr hk' => hk _ r hk' (rep_val hr)) h
  · exact h.elim
theorem aidxP_ok {n sz : Nat} {x i : D} {v u : Value} {k : D → Prop} {kc : Value → Prop} (h : aidxP n sz x i k) (hx : Rep F w x v) (hi : Rep F w i u) (hk : ∀ d r, k d → Rep F w d r → kc r) : idxP n sz v u kc := by
  unfold aidxP at h
  split at h
  · rename_i l ki j
    obtain ⟨rfl, _⟩ := rep_val_iff.1 hi
    obtain ⟨h0, h1, hk'⟩ := h
    rw [Rep] at hx
    obtain ⟨b, o, vs, rfl, hf, hb, hr, hc⟩ := hx
    exact ⟨h0, h1, hk _ _ hk' (rep_pin_drop _ hf hb hr hc)⟩
  · obtain ⟨rfl, h1⟩ := rep_val_iff.1 hx
    obtain ⟨rfl, h2⟩ := rep_val_iff.1 hi
    exact m_idxP n sz _ _ _ _ h1 h2 (fun r hr hk' => hk _ r hk' (rep_val hr)) h
  · exact h.elim
theorem afield1_ok {f : Nat} {x : D} {v : Value} {k : D → Prop} {kc : Value → Prop} (h : afield1 f x k) (hx : Rep F w x v) (hk : ∀ d r, k d → Rep F w d r → kc r) : field1 f v kc := by
  unfold afield1 at h
  split at h
  · obtain ⟨d, hd, hk'⟩ := h
    rw [Rep] at hx
    obtain ⟨vs, rfl, hr⟩ := hx
    obtain ⟨v, h1, h2⟩ := hr.get hd
    exact ⟨v, by simpa using h1, hk _ _ hk' h2⟩
  · exact h.elim
theorem afieldN_ok {f n : Nat} {x : D} {v : Value} {k : D → Prop} {kc : Value → Prop} (h : afieldN f n x k) (hx : Rep F w x v) (hk : ∀ d r, k d → Rep F w d r → kc r) : fieldN f n v kc := by
  unfold afieldN at h
  split at h
  · obtain ⟨m, hm, hk'⟩ := h
    rw [Rep] at hx
    obtain ⟨vs, rfl, hr⟩ := hx
    have := (hr.drop f).take n
    rw [hm] at this
    exact hk _ _ hk' (by rw [Rep]; exact ⟨_, rfl, this⟩)
  · exact h.elim
theorem aext_ok {j : Nat} {x : D} {v : Value} {k : D → Prop} {kc : Value → Prop} (h : aext j x k) (hx : Rep F w x v) (hk : ∀ d r, k d → Rep F w d r → kc r) : ext j v kc := by
  unfold aext at h
  split at h
  · obtain ⟨d, hd, hk'⟩ := h
    rw [Rep] at hx
    obtain ⟨vs, rfl, hr⟩ := hx
    obtain ⟨v, h1, h2⟩ := hr.get hd
    exact ⟨v, by simpa using h1, hk _ _ hk' h2⟩
  · exact h.elim
theorem aeqS_ok {st : Bool} {op : BinOp} {x y : D} {v u : Value} {k : D → Prop} {kc : Value → Prop} (h : aeqS st op x y k) (hx : Rep F w x v) (hy : Rep F w y u) (hk : ∀ d r, k d → Rep F w d r → kc r) : eqS op v u kc := by
  unfold aeqS at h
  split at h
  · obtain ⟨rfl, _⟩ := rep_val_iff.1 hy
    rw [Rep] at hx
    obtain ⟨p, c, rfl, hc, h1 | ⟨b, o, rfl, hf, hb, hr⟩⟩ := hx
    · cases h1
    · unfold eqS
      cases op <;> simp only at h ⊢ <;> first | exact h.elim | exact hk _ _ h (rep_val trivial)
  · obtain ⟨rfl, _⟩ := rep_val_iff.1 hy
    rw [Rep] at hx
    obtain ⟨p, c, rfl, hc, _⟩ := hx
    cases st
    · unfold eqS
      cases op <;> simp only [cond_false] at h ⊢ <;> first
        | exact h.elim
        | (cases p
           · exact hk _ _ h.1 (rep_val trivial)
           · exact hk _ _ h.2 (rep_val trivial))
        | (cases p
           · exact hk _ _ h.2 (rep_val trivial)
           · exact hk _ _ h.1 (rep_val trivial))
    · exact h.elim
  · obtain ⟨rfl, h1⟩ := rep_val_iff.1 hx
    obtain ⟨rfl, h2⟩ := rep_val_iff.1 hy
    exact m_eqS op _ _ _ _ h1 h2 (fun r hr hk' => hk _ r hk' (rep_val hr)) h
  · exact h.elim
theorem aeqP_ok {op : BinOp} {x y : D} {v u : Value} {k : D → Prop} {kc : Value → Prop} (h : aeqP op x y k) (hx : Rep F w x v) (hy : Rep F w y u) (hk : ∀ d r, k d → Rep F w d r → kc r) : eqP op v u kc := by
  unfold aeqP at h
  split at h
  · obtain ⟨rfl, _⟩ := rep_val_iff.1 hy
    rw [Rep] at hx
    obtain ⟨b, o, vs, rfl, _⟩ := hx
    unfold eqP
    cases op <;> simp only at h ⊢ <;> first | exact h.elim | exact hk _ _ h (rep_val trivial)
  · obtain ⟨rfl, h1⟩ := rep_val_iff.1 hx
    obtain ⟨rfl, h2⟩ := rep_val_iff.1 hy
    exact m_eqP op _ _ _ _ h1 h2 (fun r hr hk' => hk _ r hk' (rep_val hr)) h
  · exact h.elim
theorem aeqI_ok {op : BinOp} {x y : D} {v u : Value} {k : D → Prop} {kc : Value → Prop} (h : aeqI op x y k) (hx : Rep F w x v) (hy : Rep F w y u) (hk : ∀ d r, k d → Rep F w d r → kc r) : eqI op v u kc := by
  unfold aeqI at h
  split at h
  · obtain ⟨rfl, _⟩ := rep_val_iff.1 hy
    rw [Rep] at hx
    obtain ⟨v, rfl, hr⟩ := hx
    unfold eqI
    cases op <;> simp only at h ⊢ <;> first | exact h.elim | exact hk _ _ h (rep_val trivial)
  · obtain ⟨rfl, h1⟩ := rep_val_iff.1 hx
    obtain ⟨rfl, h2⟩ := rep_val_iff.1 hy
    exact m_eqI op _ _ _ _ h1 h2 (fun r hr hk' => hk _ r hk' (rep_val hr)) h
  · exact h.elim
theorem alenL_ok {x : D} {v : Value} {k : D → Prop} {kc : Value → Prop} (h : alenL x k) (hx : Rep F w x v) (hk : ∀ d r, k d → Rep F w d r → kc r) : lenL v kc := by
  unfold alenL at h
  split at h
  · rw [Rep] at hx
    obtain ⟨p, c, rfl, hc, _⟩ := hx
    refine hk _ _ h (rep_val ?_)
    unfold Fits at hc
    simp only [Okv, loN, hiN]
    omega
  · obtain ⟨rfl, h1⟩ := rep_val_iff.1 hx
    exact m_lenL _ _ _ h1 (fun r hr hk' => hk _ r hk' (rep_val hr)) h
  · exact h.elim
def ORep (F : Nat → Prop) (w : World) : Option D → Option Value → Prop
  | none, none => True
  | some d, some u => Rep F w d u
  | _, _ => False
theorem orep_val {v u : Value} (h : ORep F w (some (.val v)) (some u)) : u = v := (rep_val_iff (F := F) (w := w).1 h).1
/-- an operand that is a value, or none -/
theorem aval_ok {x : Option D} {v r : Option Value} (h : aval x = some v) (hx : ORep F w x r) : r = v := by
  cases x with
  | none =>
    cases r with
    | none => simpa [aval] using h
    | some u => exact hx.elim
  | some d =>
    cases r with
    | none => exact hx.elim
    | some u =>
      cases d <;> simp only [aval] at h <;> try cases h
      obtain rfl := orep_val hx
      rfl
theorem aslcS_ok {x : D} {lo hi : Option D} {v : Value} {cl ch : Option Value} {k : D → Prop} {kc : Value → Prop} (h : aslcS x lo hi k) (hx : Rep F w x v)
    (hl : ORep F w lo cl) (hh : ORep F w hi ch) (hk : ∀ d r, k d → Rep F w d r → kc r) : slcS v cl ch kc := by
  unfold aslcS at h
  split at h
  · obtain ⟨rfl, h1⟩ := rep_val_iff.1 hx
    cases h2 : aval lo with
    | none => simp only [h2] at h
    | some l2 =>
      cases h3 : aval hi with
      | none => simp only [h2, h3] at h
      | some l3 =>
        simp only [h2, h3] at h
        rw [aval_ok h2 hl, aval_ok h3 hh]
        exact m_slcS _ _ _ _ _ h1 (fun r hr hk' => hk _ r hk' (rep_val hr)) h
  · exact h.elim
theorem aslcL_ok {sz : Nat} {x : D} {lo hi : Option D} {v : Value} {cl ch : Option Value} {k : D → Prop} {kc : Value → Prop} (h : aslcL sz x lo hi k) (hx : Rep F w x v)
    (hl : ORep F w lo cl) (hh : ORep F w hi ch) (hk : ∀ d r, k d → Rep F w d r → kc r) : slcL sz v cl ch kc := by
  unfold aslcL at h
  split at h
  · rename_i z l
    obtain ⟨rfl, a, b, h1, h2, h3, h4, m, hm, hk'⟩ := h
    rw [Rep] at hx
    obtain ⟨p, c, rfl, hc, hr⟩ := hx
    refine ⟨a, b, ?_, ?_, h3, hk _ _ hk' ?_⟩
    · cases hi with
      | none =>
        cases ch with
        | none => exact h1
        | some u => exact hh.elim
      | some d =>
        cases ch with
        | none => exact hh.elim
        | some u =>
          obtain ⟨ki, rfl⟩ := h1
          obtain rfl := orep_val hh
          exact ⟨ki, rfl, Nat.le_trans h4 hc.1⟩
    · cases lo with
      | none =>
        cases cl with
        | none => exact h2
        | some u => exact hl.elim
      | some d =>
        cases cl with
        | none => exact hl.elim
        | some u =>
          obtain ⟨ki, rfl⟩ := h2
          obtain rfl := orep_val hl
          exact ⟨ki, rfl⟩
    · subst hm
      rw [Rep]
      refine ⟨_, c - a, by congr 1; simp; omega, ⟨by have := hc.1; simp; omega, by have := hc.2; omega⟩, ?_⟩
      rcases hr with rfl | ⟨b', o, rfl, hf, hb, hr⟩
      · left; simp
      · by_cases hca : c = a
        · left
          have : b = a := by have := hc.1; omega
          subst this
          simp
        · right
          refine ⟨b', o + a * z, by simp [hca, add_plain], hf, hb, (hr.take b).drop a⟩
  · obtain ⟨rfl, h1⟩ := rep_val_iff.1 hx
    cases h2 : aval lo with
    | none => simp only [h2] at h
    | some l2 =>
      cases h3 : aval hi with
      | none => simp only [h2, h3] at h
      | some l3 =>
        simp only [h2, h3] at h
        rw [aval_ok h2 hl, aval_ok h3 hh]
        exact m_slcL _ _ _ _ _ _ h1 (fun r hr hk' => hk _ r hk' (rep_val hr)) h
  · exact h.elim

/-! ### parts -/
inductive Pt2 (F : Nat → Prop) (w : World) : List (Nat × List D) → List (Nat × List Value) → Prop
  | nil : Pt2 F w [] []
  | cons {p : Nat × List D} {q : Nat × List Value} {r s} (h : Reps F w p.2 q.2) (t : Pt2 F w r s) : Pt2 F w (p :: r) (q :: s)
theorem afill_ok : ∀ {ps : List (Nat × List D)} {qs : List (Nat × List Value)} {z : List D} {vz : List Value}, Reps F w z vz → ps.map (·.1) = qs.map (·.1) → Pt2 F w ps qs → Reps F w (afill z ps) (fillL vz qs)
  | [], [], _, _, hz, _, _ => hz
  | (o, l) :: ps, (o', vs) :: qs, z, vz, hz, hm, hf => by
    cases hf with
    | cons h1 h2 =>
      simp only [List.map_cons, List.cons.injEq] at hm
      obtain ⟨rfl, hm⟩ := hm
      simp only at h1
      rw [afill, fillL]
      refine afill_ok ?_ hm h2
      rw [← h1.length]
      exact ((hz.take o).append h1).append (hz.drop _)
  | [], _ :: _, _, _, _, hm, _ => by cases hm
  | _ :: _, [], _, _, _, hm, _ => by cases hm
/-- parts, as data and as values -/
inductive Pts (F : Nat → Prop) (w : World) : List (Nat × Nat × D) → List (Nat × Nat × Value) → Prop
  | nil : Pts F w [] []
  | cons {o n : Nat} {d : D} {v : Value} {r s} (h : Rep F w d v) (t : Pts F w r s) : Pts F w ((o, n, d) :: r) ((o, n, v) :: s)
theorem Pts.ok {ps qs} (h : Pts F w ps qs) (hs : asizes ps = true) : sizes qs ∧ (aparts ps).map (·.1) = (parts qs).map (·.1) ∧ Pt2 F w (aparts ps) (parts qs) := by
  induction h with
  | nil => exact ⟨trivial, rfl, .nil⟩
  | cons h t ih =>
    simp only [asizes, Bool.and_eq_true, Nat.beq_eq] at hs
    obtain ⟨h1, h2, h3⟩ := hs
    obtain ⟨i1, i2, i3⟩ := ih h3
    obtain ⟨r1, r2⟩ := rep_cl h2 h
    refine ⟨⟨?_, i1⟩, ?_, ?_⟩
    · rw [← Array.length_toList, r1.length]; exact h1
    · simp only [aparts, parts, List.map_cons, List.cons.injEq, true_and]
      exact i2
    · exact .cons r1 i3
theorem pts_of {P : Program} {t : TypeId} {ρ : Operand → D} {ρc : Operand → Value} : ∀ {ps : List (Nat × Operand)}, (∀ p ∈ ps, Rep F w (ρ p.2) (ρc p.2)) → Pts F w (apartsT P t ρ ps) (partsT P t ρc ps)
  | [], _ => .nil
  | (i, x) :: ps, h => .cons (h (i, x) (by simp)) (pts_of fun p hp => h p (by simp [hp]))
theorem rep_nilw {v : Value} {sz : Nat} (h : Rep F w .nil v) : Rep F w (.row sz []) v := by
  obtain ⟨rfl, _⟩ := rep_val_iff.1 h
  rw [Rep]
  exact ⟨none, 0, rfl, ⟨Nat.le_refl _, by decide⟩, .inl rfl⟩
theorem NilW.ok : ∀ {l l' : List D} {vs : List Value}, NilW l l' → Reps F w l vs → Reps F w l' vs
  | _, _, _, .refl _, h => h
  | _, _, _, .same h', h => by
    rw [Reps] at h ⊢
    obtain ⟨v, r, rfl, h1, h2⟩ := h
    exact ⟨v, r, rfl, h1, NilW.ok h' h2⟩
  | _, _, _, .nil h', h => by
    rw [Reps] at h ⊢
    obtain ⟨v, r, rfl, h1, h2⟩ := h
    exact ⟨v, r, rfl, rep_nilw h1, NilW.ok h' h2⟩
theorem abld_ok {ps qs} {z : List Value} {k : D → Prop} {kc : Value → Prop} (h : abld (vals z) ps k) (hp : Pts F w ps qs) (hz : ∀ v ∈ z, Okv v) (hk : ∀ d r, k d → Rep F w d r → kc r) : bld z qs kc := by
  obtain ⟨hs, l, l', hl, hn, hk'⟩ := h
  obtain ⟨h1, h2, h3⟩ := hp.ok hs
  refine ⟨h1, hk _ _ hk' ?_⟩
  rw [Rep]
  exact ⟨_, rfl, hn.ok (by rw [← hl]; exact afill_ok (reps_vals hz) h2 h3)⟩
theorem mapO_ok {ρ : Operand → D} {ρc : Operand → Value} : ∀ {l : List Operand}, (∀ x ∈ l, Rep F w (ρ x) (ρc x)) → Reps F w (mapO ρ l) (l.map ρc)
  | [], _ => reps_nil
  | x :: l, h => reps_cons (h x (by simp)) (mapO_ok fun y hy => h y (by simp [hy]))
/-! ### a type's zero value is one that may be -/
theorem okI_of {k : IntKind} {n : Int} (h : okI k n = true) : -(loN k : Int) ≤ n ∧ n ≤ hiN k := by
  unfold okI at h
  split at h
  · have := Nat.le_of_ble_eq_true h
    simp only [Int.ofNat_eq_natCast]
    omega
  · have := Nat.le_of_ble_eq_true h
    omega
theorem okv_of {v : Value} (h : okB v = true) : Okv v := by
  unfold okB at h; unfold Okv
  split at h
  · exact okI_of h
  all_goals simp_all
theorem zok_of : ∀ {z : List Value}, zok z = true → ∀ v ∈ z, Okv v
  | u :: z, h, v, hv => by
    rw [zok, Bool.and_eq_true] at h
    rcases List.mem_cons.1 hv with rfl | hv
    · exact okv_of h.1
    · exact zok_of h.2 v hv
theorem vals_ok : ∀ {z : List Value}, z.all okB = true → Reps F w (z.map .val) z
  | [], _ => reps_nil
  | v :: z, h => by
    rw [List.all_cons, Bool.and_eq_true] at h
    exact reps_cons (rep_val (okv_of h.1)) (vals_ok h.2)
theorem dz_ok {z : Value} (h : zvOk z = true) : Rep F w (dz z) z := by
  cases z with
  | agg cs =>
    show Rep F w (.agg (cs.toList.map .val)) _
    rw [Rep]
    exact ⟨cs.toList, by simp, vals_ok h⟩
  | tuple vs => cases h
  | _ => exact rep_val (okv_of h)
theorem resOk_ok {ok b : Bool} {d : D} {v : Value} (h : Rep F w d v) : Rep F w (aresOk ok d b) (resOk ok v b) := by
  cases ok
  · exact h
  · show Rep F w (.tuple [d, .b b]) (.tuple #[v, .bool b])
    rw [Rep]
    exact ⟨_, rfl, reps_cons h (reps_cons (rep_val trivial) reps_nil)⟩
theorem atas_ok {t : TypeId} {z : Value} {x : D} {v : Value} {ok : Bool} {k : D → Prop} {kc : Value → Prop} (h : atas t (dz z) x ok k) (hz : zvOk z = true) (hx : Rep F w x v) (hk : ∀ d r, k d → Rep F w d r → kc r) : tas t z v ok kc := by
  have hno : ∀ r, Rep F w r (.tuple #[z, .bool false]) → k r → kc (.tuple #[z, .bool false]) := fun r h1 h2 => hk _ _ h2 h1
  have hzz : Rep F w (.tuple [dz z, .b false]) (.tuple #[z, .bool false]) := by
    rw [Rep]
    exact ⟨_, rfl, reps_cons (dz_ok hz) (reps_cons (rep_val trivial) reps_nil)⟩
  unfold atas at h
  split at h
  · rw [Rep] at hx
    obtain ⟨v, rfl, hr⟩ := hx
    unfold tas
    show (bif Nat.beq _ t then kc (resOk ok v true) else (bif ok then kc (.tuple #[z, .bool false]) else False))
    rw [Bool.cond_eq_ite] at h ⊢
    split at h
    · rename_i he
      rw [if_pos he]
      exact hk _ _ h (resOk_ok hr)
    · rename_i he
      rw [if_neg he]
      cases ok
      · exact h.elim
      · exact hno _ hzz h
  · obtain ⟨rfl, _⟩ := rep_val_iff.1 hx
    unfold tas
    cases ok
    · exact h.elim
    · exact hno _ hzz h
  · exact h.elim
mutual
theorem dkv_ok : ∀ (d : D) {v u : Value}, dkv d = some u → Rep F w d v → v = u
  | .val x, v, u, h, hr => by
    rw [dkv] at h
    obtain ⟨rfl, _⟩ := rep_val_iff.1 hr
    exact Option.some.inj h
  | .agg l, v, u, h, hr => by
    rw [dkv] at h
    split at h
    · rename_i vs hv
      rw [Rep] at hr
      obtain ⟨us, rfl, hr⟩ := hr
      rw [dkvs_ok l hv hr]
      exact Option.some.inj h
    · cases h
  | .tuple _, _, _, h, _ => by rw [dkv] at h <;> (first | (cases h; done) | (intros; simp))
  | .row _ _, _, _, h, _ => by rw [dkv] at h <;> (first | (cases h; done) | (intros; simp))
  | .pin _, _, _, h, _ => by rw [dkv] at h <;> (first | (cases h; done) | (intros; simp))
  | .fn _ _ _, _, _, h, _ => by rw [dkv] at h <;> (first | (cases h; done) | (intros; simp))
  | .ifc _ _, _, _, h, _ => by rw [dkv] at h <;> (first | (cases h; done) | (intros; simp))
  | .top, _, _, h, _ => by rw [dkv] at h <;> (first | (cases h; done) | (intros; simp))
theorem dkvs_ok : ∀ (l : List D) {vs us : List Value}, dkvs l = some us → Reps F w l vs → vs = us
  | [], vs, us, h, hr => by
    rw [dkvs] at h
    rw [Reps] at hr
    rw [hr]; exact Option.some.inj h
  | d :: l, vs, us, h, hr => by
    rw [dkvs] at h
    rw [Reps] at hr
    obtain ⟨v, r, rfl, h1, h2⟩ := hr
    split at h
    · rename_i x xs hx hxs
      rw [dkv_ok d hx h1, dkvs_ok l hxs h2]
      exact Option.some.inj h
    · cases h
end
end
end Go.V
