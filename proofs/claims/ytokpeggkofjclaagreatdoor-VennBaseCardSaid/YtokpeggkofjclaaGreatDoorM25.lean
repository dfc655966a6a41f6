/- What is counted of a world, node by node, and what a row is of it. -/
import Derived.Test.YtokpeggkofjclaaGreatDoorM21
import Derived.Test.YtokpeggkofjclaaGreatDoorM6
set_option linter.unusedVariables false
namespace Go.V
open Go
def sumN (g : Nat → Int) : Nat → Int
  | 0 => 0
  | n + 1 => sumN g n + g n
theorem sumN_congr {f g : Nat → Int} : ∀ n, (∀ i, i < n → f i = g i) → sumN f n = sumN g n
  | 0, _ => rfl
  | n + 1, h => by rw [sumN, sumN, sumN_congr n fun i hi => h i (by omega), h n (by omega)]
theorem sumN_add (f g : Nat → Int) : ∀ n, sumN (fun i => f i + g i) n = sumN f n + sumN g n
  | 0 => rfl
  | n + 1 => by rw [sumN, sumN, sumN, sumN_add f g n]; omega
theorem sumN_mul (a : Int) (f : Nat → Int) : ∀ n, sumN (fun i => a * f i) n = a * sumN f n
  | 0 => by simp [sumN]
  | n + 1 => by rw [sumN, sumN, sumN_mul a f n, Int.mul_add]
theorem sumN_zero {f : Nat → Int} : ∀ n, (∀ i, i < n → f i = 0) → sumN f n = 0
  | 0, _ => rfl
  | n + 1, h => by rw [sumN, sumN_zero n fun i hi => h i (by omega), h n (by omega)]; rfl
theorem sumN_shift (f : Nat → Int) : ∀ n, sumN f (n + 1) = f 0 + sumN (fun i => f (i + 1)) n
  | 0 => by simp [sumN]
  | n + 1 => by rw [sumN, sumN_shift f n, sumN]; omega
theorem sumN_split (f : Nat → Int) (a : Nat) : ∀ b, sumN f (a + b) = sumN f a + sumN (fun i => f (a + i)) b
  | 0 => by simp [sumN]
  | b + 1 => by rw [← Nat.add_assoc, sumN, sumN, sumN_split f a b]; omega
theorem sumN_one {f : Nat → Int} {k : Nat} {x : Int} (h1 : f k = x) : ∀ n, (∀ i, i < n → i ≠ k → f i = 0) → sumN f n = if k < n then x else 0
  | 0, _ => by simp [sumN]
  | n + 1, h => by
    rw [sumN, sumN_one h1 n fun i hi => h i (by omega)]
    by_cases hk : k = n
    · subst hk; rw [h1, if_neg (by omega), if_pos (by omega)]; omega
    · rw [h n (by omega) (fun e => hk e.symm)]
      by_cases hkn : k < n
      · rw [if_pos hkn, if_pos (by omega)]; omega
      · rw [if_neg hkn, if_neg (by omega)]; rfl
def sumH : Int → List Int → List Int → Option Int
  | n, c :: cs, x :: xs => if inI (c * x) && inI (n + c * x) then sumH (n + c * x) cs xs else none
  | n, [], _ => some n
  | n, _ :: _, [] => some n
def HoldsF (r : Rw) (l : List Int) : Bool × Bool := match sumH r.k r.c l with | some n => (decide (n ≤ 0), true) | none => (false, false)
/-- of two rows of numbers: the sum of what they are together -/
def dotF (c l : List Int) (n : Nat) : Int := sumN (fun i => c.getD i 0 * l.getD i 0) n
theorem sumH_spec : ∀ (c l : List Int) (n m : Int), sumH n c l = some m → m = n + dotF c l (min c.length l.length)
  | [], l, n, m, h1 => by
    simp only [sumH, Option.some.injEq] at h1
    rw [List.length_nil, Nat.zero_min]; show m = n + 0; omega
  | x :: c, [], n, m, h1 => by
    simp only [sumH, Option.some.injEq] at h1
    rw [List.length_nil, Nat.min_zero]; show m = n + 0; omega
  | x :: c, y :: l, n, m, h1 => by
    rw [sumH] at h1
    split at h1
    · have := sumH_spec c l (n + x * y) m h1
      rw [this]
      unfold dotF
      rw [List.length_cons, List.length_cons, Nat.succ_min_succ, sumN_shift]
      simp only [List.getD_cons_zero, List.getD_cons_succ]
      omega
    · cases h1
theorem in_small {v : Int} (h1 : -9000000 ≤ v) (h2 : v ≤ 9000000) : inI v = true := by
  unfold inI
  rw [Bool.and_eq_true, decide_eq_true_eq, decide_eq_true_eq]
  omega
/-- small numbers are never too large -/
theorem sumH_cut (c : List Int) : ∀ (l : List Int) (n : Int), (∀ i, i < min c.length l.length → -64 ≤ c.getD i 0 * l.getD i 0 ∧ c.getD i 0 * l.getD i 0 ≤ 64) → -4000000 + 64 * (l.length : Int) ≤ n → n ≤ 4000000 - 64 * (l.length : Int) → sumH n c l = some (n + dotF c l (min c.length l.length)) := by
  induction c with
  | nil =>
    intro l n _ _ _
    rw [sumH, List.length_nil, Nat.zero_min]; show some n = some (n + 0); rw [Int.add_zero]
  | cons x c ih =>
    intro l n h h1 h2
    cases l with
    | nil => rw [sumH, List.length_nil, Nat.min_zero]; show some n = some (n + 0); rw [Int.add_zero]
    | cons y l =>
      rw [List.length_cons] at h1 h2
      have h0 := h 0 (by simp)
      simp only [List.getD_cons_zero] at h0
      have i1 : inI (x * y) = true := in_small (by omega) (by omega)
      have i2 : inI (n + x * y) = true := in_small (by omega) (by omega)
      have ih := ih l (n + x * y) (fun i hi => by
        have := h (i + 1) (by simp only [List.length_cons]; omega)
        simpa using this) (by omega) (by omega)
      rw [sumH, i1, i2, Bool.and_self, if_pos rfl, ih]
      unfold dotF
      rw [List.length_cons, List.length_cons, Nat.succ_min_succ, sumN_shift]
      simp only [List.getD_cons_zero, List.getD_cons_succ]
      congr 1
      omega
end Go.V
/- What is counted of a world, node by node. -/
set_option linter.unusedVariables false
namespace Go.V
open Go
theorem getD_set' {α : Type} (l : List α) (i j : Nat) (x d : α) : (l.set i x).getD j d = if i = j ∧ j < l.length then x else l.getD j d := by
  rw [List.getD_eq_getElem?_getD, List.getD_eq_getElem?_getD, List.getElem?_set]
  by_cases h : i = j
  · subst h
    by_cases hl : i < l.length
    · rw [if_pos rfl, if_pos hl, if_pos ⟨rfl, hl⟩]; rfl
    · rw [if_pos rfl, if_neg hl, if_neg (by omega), List.getElem?_eq_none (by omega)]
  · rw [if_neg h, if_neg (by omega)]
theorem inB_bit (r c : Nat) : inB r c = r.testBit c := by unfold inB; rw [Nat.testBit_eq_decide_div_mod_eq]
theorem tally_at : ∀ (rg : List Nat) (l : List Int) (r : Nat), (∀ x ∈ rg, x < l.length) → (tally l rg).getD r 0 = l.getD r 0 + rg.count r
  | [], l, r, _ => by simp [tally]
  | x :: rg, l, r, h => by
    have hx := h x (by simp)
    rw [tally, tally_at rg _ r (fun y hy => by rw [List.length_set]; exact h y (by simp [hy])), getD_set', List.count_cons]
    by_cases e : x = r
    · subst e; rw [if_pos ⟨rfl, hx⟩]; simp; omega
    · rw [if_neg (by omega)]; simp [e]
theorem markI_at {p : Pl} {w : Wd} : ∀ (l : List ByteArray) (i : Nat) (m m' : List Int), markI p w i l m = some m' → m'.length = m.length ∧ (∀ r, r < p.reg + i → m'.getD r 0 = m.getD r 0) ∧ ∀ j (hj : j < l.length), ∃ v, getF w.names l[j] 1 = some v ∧ (p.reg + (i + j) < m.length → m'.getD (p.reg + (i + j)) 0 = v.n)
  | [], i, m, m', h => by
    rw [markI] at h; injection h with h; subst h
    exact ⟨rfl, fun r _ => rfl, fun j hj => by simp at hj⟩
  | s :: l, i, m, m', h => by
    rw [markI] at h
    split at h
    · cases h
    · next v hv =>
      obtain ⟨h1, h2, h3⟩ := markI_at l (i + 1) _ m' h
      rw [List.length_set] at h1
      refine ⟨h1, fun r hr => ?_, fun j hj => ?_⟩
      · rw [h2 r (by omega), getD_set', if_neg (by omega)]
      · cases j with
        | zero =>
          refine ⟨v, hv, fun hl => ?_⟩
          rw [h2 _ (by omega), getD_set', if_pos ⟨rfl, hl⟩]
        | succ j =>
          obtain ⟨u, hu, hu2⟩ := h3 j (by simpa using hj)
          refine ⟨u, hu, fun hl => ?_⟩
          rw [List.length_set, show i + 1 + j = i + (j + 1) by omega] at hu2
          exact hu2 hl
theorem orS_at {rg : List Nat} {s : List Bool} {i k : Nat} (hk : k < rg.length) (hs : s.length = rg.length) (c : Nat) : ((orS rg s i).getD k 0).testBit c = ((rg.getD k 0).testBit c || (decide (i = c) && s.getD k false)) := by
  have hks : k < s.length := by omega
  have e : (orS rg s i).getD k 0 = if s[k] = true then rg[k] ||| 2 ^ i else rg[k] := by
    unfold orS
    rw [List.getD_eq_getElem?_getD, List.getElem?_map, List.getElem?_eq_getElem (by rw [List.length_zip]; omega), List.getElem_zip]
    rfl
  rw [e, List.getD_eq_getElem?_getD, List.getD_eq_getElem?_getD, List.getElem?_eq_getElem hk, List.getElem?_eq_getElem hks, Option.getD_some, Option.getD_some]
  cases s[k] with
  | false => simp
  | true => rw [if_pos rfl, Nat.testBit_or, Nat.testBit_two_pow, Bool.and_true]
theorem markS_at {w : Wd} : ∀ (l : List ByteArray) (i : Nat) (rg rg' : List Nat), markS w i l rg = some rg' → (∀ s v, getF w.names s 2 = some v → v.s.length = rg.length) → rg'.length = rg.length ∧
    (∀ k, k < rg.length → ∀ c, (c < i ∨ i + l.length ≤ c) → (rg'.getD k 0).testBit c = (rg.getD k 0).testBit c) ∧
    ∀ j (hj : j < l.length), ∃ v, getF w.names l[j] 2 = some v ∧ ∀ k, k < rg.length → (rg'.getD k 0).testBit (i + j) = ((rg.getD k 0).testBit (i + j) || v.s.getD k false)
  | [], i, rg, rg', h, _ => by
    rw [markS] at h; injection h with h; subst h
    exact ⟨rfl, fun k _ c _ => rfl, fun j hj => by simp at hj⟩
  | s :: l, i, rg, rg', h, hl => by
    rw [markS] at h
    split at h
    · cases h
    · next v hv =>
      have hsl := hl s v hv
      have hol := orS_len (i := i) hsl
      obtain ⟨h1, h2, h3⟩ := markS_at l (i + 1) _ rg' h (fun s v hs => by rw [hol]; exact hl s v hs)
      rw [hol] at h1 h2 h3
      refine ⟨h1, fun k hk c hc => ?_, fun j hj => ?_⟩
      · rw [List.length_cons] at hc
        rw [h2 k hk c (by omega), orS_at hk hsl, decide_eq_false (by omega : ¬ i = c), Bool.false_and, Bool.or_false]
      · cases j with
        | zero =>
          refine ⟨v, hv, fun k hk => ?_⟩
          rw [h2 k hk _ (by omega), orS_at hk hsl, decide_eq_true (by omega : i = i + 0), Bool.true_and]
        | succ j =>
          obtain ⟨u, hu, hu2⟩ := h3 j (by simpa using hj)
          refine ⟨u, hu, fun k hk => ?_⟩
          have := hu2 k hk
          rw [show i + 1 + j = i + (j + 1) by omega] at this
          rw [this, orS_at hk hsl, decide_eq_false (by omega : ¬ i = i + (j + 1)), Bool.false_and, Bool.or_false]
theorem markN_at {w : Wd} : ∀ (l : List ByteArray) (i : Nat) (rg rg' : List Nat), markN w i l rg = some rg' → rg'.length = rg.length ∧
    (∀ k, k < rg.length → ∀ c, (c < i ∨ i + l.length ≤ c) → (rg'.getD k 0).testBit c = (rg.getD k 0).testBit c) ∧
    ∀ j (hj : j < l.length), ∃ v, getF w.names l[j] 3 = some v ∧ ∀ k, k < rg.length → (rg'.getD k 0).testBit (i + j) = ((rg.getD k 0).testBit (i + j) || decide (k = v.n.toNat))
  | [], i, rg, rg', h => by
    rw [markN] at h; injection h with h; subst h
    exact ⟨rfl, fun k _ c _ => rfl, fun j hj => by simp at hj⟩
  | s :: l, i, rg, rg', h => by
    rw [markN] at h
    split at h
    · cases h
    · next v hv =>
      obtain ⟨h1, h2, h3⟩ := markN_at l (i + 1) _ rg' h
      rw [List.length_set] at h1 h2 h3
      have one : ∀ k, k < rg.length → ∀ c, ((rg.set v.n.toNat (rg.getD v.n.toNat 0 ||| 2 ^ i)).getD k 0).testBit c = ((rg.getD k 0).testBit c || (decide (i = c) && decide (k = v.n.toNat))) := fun k hk c => by
        rw [getD_set']
        by_cases e : v.n.toNat = k
        · rw [if_pos ⟨e, hk⟩, e, Nat.testBit_or, Nat.testBit_two_pow]; simp
        · rw [if_neg (by omega), decide_eq_false (by omega : ¬ k = v.n.toNat), Bool.and_false, Bool.or_false]
      refine ⟨h1, fun k hk c hc => ?_, fun j hj => ?_⟩
      · rw [List.length_cons] at hc
        rw [h2 k hk c (by omega), one k hk, decide_eq_false (by omega : ¬ i = c), Bool.false_and, Bool.or_false]
      · cases j with
        | zero =>
          refine ⟨v, hv, fun k hk => ?_⟩
          rw [h2 k hk _ (by omega), one k hk, decide_eq_true (by omega : i = i + 0), Bool.true_and]
        | succ j =>
          obtain ⟨u, hu, hu2⟩ := h3 j (by simpa using hj)
          refine ⟨u, hu, fun k hk => ?_⟩
          have := hu2 k hk
          rw [show i + 1 + j = i + (j + 1) by omega] at this
          rw [this, one k hk, decide_eq_false (by omega : ¬ i = i + (j + 1)), Bool.false_and, Bool.or_false]
/-- each node's region, the numbers of all regions -/
structure Counted (p : Pl) (w : Wd) (rg : List Nat) (l : List Int) : Prop where
  right : rightW w = true
  len : rg.length = w.nodes.toNat
  lt : ∀ x ∈ rg, x < p.reg
  set : ∀ j (hj : j < p.sets.length), ∃ v, getF w.names p.sets[j] 2 = some v ∧ ∀ k, k < rg.length → inB (rg.getD k 0) j = v.s.getD k false
  nod : ∀ j (hj : j < p.nodes.length), ∃ v, getF w.names p.nodes[j] 3 = some v ∧ ∀ k, k < rg.length → inB (rg.getD k 0) (p.sets.length + j) = decide (k = v.n.toNat)
  unk : l.length = p.unk
  cnt : ∀ r, r < p.reg → l.getD r 0 = rg.count r
  int : ∀ j (hj : j < p.ints.length), ∃ v, getF w.names p.ints[j] 1 = some v ∧ l.getD (p.reg + j) 0 = v.n
theorem getF_okV {w : Wd} {s : ByteArray} {st : Int} {v : Vl} (hw : rightW w = true) (h : getF w.names s st = some v) : OkV w st v := nameV_ok (nm := s) hw (by unfold nameV; rw [h])
theorem CountF_spec {p : Pl} {w : Wd} {l : List Int} (h6 : p.circ ≤ 6) (h : CountF p w = (l, 0)) : ∃ rg, Counted p w rg l := by
  unfold CountF at h
  split at h
  · injection h with _ h; cases h
  · next hw =>
    have hw : rightW w = true := by simpa using hw
    split at h
    · injection h with _ h; cases h
    · next rg1 e1 =>
      split at h
      · injection h with _ h; cases h
      · next rg2 e2 =>
        split at h
        · injection h with _ h; cases h
        · next m e3 =>
          injection h with h _
          subst h
          obtain ⟨a1, a2, a3⟩ := markS_at p.sets 0 _ rg1 e1 (fun s v hs => by
            have := (getF_okV hw hs).len
            rw [if_pos rfl] at this
            rw [this, List.length_replicate])
          rw [List.length_replicate] at a1 a2 a3
          obtain ⟨b1, b2, b3⟩ := markN_at p.nodes p.sets.length rg1 rg2 e2
          rw [a1] at b1 b2 b3
          obtain ⟨c1, c2, c3⟩ := markI_at p.ints 0 _ m e3
          rw [tally_len, List.length_replicate] at c1 c3
          have hz : ∀ k c, ((List.replicate w.nodes.toNat 0).getD k 0).testBit c = false := fun k c => by
            rw [List.getD_eq_getElem?_getD, List.getElem?_replicate]
            split <;> simp
          have hlt : ∀ x ∈ rg2, x < p.reg := fun x hx => by
            obtain ⟨k, hk, rfl⟩ := List.mem_iff_getElem.1 hx
            have hk' : k < w.nodes.toNat := by omega
            unfold Pl.reg
            rw [Nat.min_eq_left h6]
            refine Nat.lt_pow_two_of_testBit _ fun c hc => ?_
            have e : rg2[k] = rg2.getD k 0 := by rw [List.getD_eq_getElem?_getD, List.getElem?_eq_getElem hk, Option.getD_some]
            have hc : p.sets.length + p.nodes.length ≤ c := hc
            rw [e, b2 k hk' c (.inr hc), a2 k hk' c (.inr (by omega)), hz]
          have hru : p.reg ≤ p.unk := by unfold Pl.unk; omega
          refine ⟨rg2, hw, by omega, hlt, fun j hj => ?_, fun j hj => ?_, by omega, fun r hr => ?_, fun j hj => ?_⟩
          · obtain ⟨v, hv, hv2⟩ := a3 j hj
            refine ⟨v, hv, fun k hk => ?_⟩
            rw [b1] at hk
            have := hv2 k hk
            rw [Nat.zero_add, hz, Bool.false_or] at this
            rw [inB_bit, b2 k hk j (.inl hj), this]
          · obtain ⟨v, hv, hv2⟩ := b3 j hj
            refine ⟨v, hv, fun k hk => ?_⟩
            rw [b1] at hk
            rw [inB_bit, hv2 k hk, a2 k hk _ (.inr (by omega)), hz, Bool.false_or]
          · rw [c2 r (by omega), tally_at _ _ _ (fun x hx => by rw [List.length_replicate]; have := hlt x hx; omega), List.getD_eq_getElem?_getD, List.getElem?_replicate]
            split <;> simp
          · obtain ⟨v, hv, hv2⟩ := c3 j hj
            rw [Nat.zero_add] at hv2
            exact ⟨v, hv, hv2 (by unfold Pl.unk; omega)⟩
end Go.V
/- A row's value is its atom's. -/
set_option linter.unusedVariables false
namespace Go.V
open Go
theorem getD_lt' {α : Type} {l : List α} {i : Nat} {d : α} (h : i < l.length) : l.getD i d = l[i] := by
  rw [List.getD_eq_getElem?_getD, List.getElem?_eq_getElem h, Option.getD_some]
section
variable {p : Pl} {w : Wd} {rg : List Nat} {l : List Int}
theorem plc_of {s : ByteArray} {m : List ByteArray} (h : decide (atS s m 0 < 0) = false) : ∃ h : plcN m s < m.length, m[plcN m s] = s := by
  have hq : plcE m s = .ok (plcN m s) := by rw [plcE_eq, if_neg (by simpa using h)]
  obtain ⟨h1, h2⟩ := plcE_ok hq
  rw [List.getElem?_eq_getElem h2] at h1
  injection h1 with h1
  exact ⟨h2, h1⟩
theorem set_at (hC : Counted p w rg l) (t : Tm) : rightT t 2 = true → badS p t = false → ∀ v, evV w t = .ok v → ∀ k, k < rg.length → v.s.getD k false = regT p t (rg.getD k 0) := by
  induction t using Tm.ind' with
  | h t ih =>
    intro h hb v hv k hk
    have ho := right_set h
    have hlen := hC.len
    have hkn : (k : Int) < w.nodes := by omega
    cases t with | mk op nm n a =>
    simp only [Tm.op] at ho
    rw [evV_eq] at hv
    have two : (op = 11 ∨ op = 12 ∨ op = 13) → v.s.getD k false = regT p (.mk op nm n a) (rg.getD k 0) := fun hh => by
      obtain ⟨x, y, rfl, hx, hy⟩ := right2 h (s1 := 2) (s2 := 2) (by rcases hh with e | e | e <;> rw [e] <;> rfl) (by rcases hh with e | e | e <;> rw [e] <;> rfl)
      rw [badS, if_neg (by omega), if_neg (by omega), if_neg (by omega), badSL, badSL, badSL, Bool.or_false, Bool.or_eq_false_iff] at hb
      rw [regT, if_neg (by omega), if_neg (by omega), if_neg (by omega), regL, regL, regL]
      simp only
      rw [evL2] at hv
      cases hu : evV w x with
      | error e => rw [hu] at hv; cases hv
      | ok u =>
        cases hz : evV w y with
        | error e => rw [hu, hz] at hv; cases hv
        | ok z =>
          rw [hu, hz] at hv
          have e1 := ih x (by simp [Tm.a]) hx hb.1 u hu k hk
          have e2 := ih y (by simp [Tm.a]) hy hb.2 z hz k hk
          rw [← e1, ← e2]
          unfold combS
          rcases hh with rfl | rfl | rfl
          · have hv : Except.ok (whereF w fun i => u.s.getD i false || z.s.getD i false) = Except.ok (ε := Int) v := hv
            injection hv with hv
            subst hv
            rw [where_get _ _ hkn, if_pos rfl]
          · have hv : Except.ok (whereF w fun i => u.s.getD i false && z.s.getD i false) = Except.ok (ε := Int) v := hv
            injection hv with hv
            subst hv
            rw [where_get _ _ hkn, if_neg (by decide), if_pos rfl]
          · have hv : Except.ok (whereF w fun i => u.s.getD i false && !z.s.getD i false) = Except.ok (ε := Int) v := hv
            injection hv with hv
            subst hv
            rw [where_get _ _ hkn, if_neg (by decide), if_neg (by decide)]
    rcases ho with e | e | e | e | e | e | e
    · subst e
      rw [badS, if_pos rfl] at hb
      obtain ⟨q1, q2⟩ := plc_of hb
      obtain ⟨u, hu, hu2⟩ := hC.set _ q1
      rw [q2] at hu
      rw [regT, if_pos rfl, hu2 k hk]
      cases he : evL w a with
      | error e => rw [he] at hv; cases hv
      | ok vs =>
        rw [he] at hv
        have hv : nameV w nm 2 = .ok v := hv
        unfold nameV at hv
        rw [hu] at hv
        injection hv with hv
        rw [hv]
    · subst e
      rw [regT, if_neg (by decide), if_neg (by decide), if_pos (by decide)]
      cases he : evL w a with
      | error e => rw [he] at hv; cases hv
      | ok vs =>
        rw [he] at hv
        have hv : Except.ok (whereF w fun _ => false) = Except.ok (ε := Int) v := hv
        injection hv with hv
        subst hv
        rw [where_get _ _ hkn]; rfl
    · subst e
      rw [regT, if_neg (by decide), if_neg (by decide), if_pos (by decide)]
      cases he : evL w a with
      | error e => rw [he] at hv; cases hv
      | ok vs =>
        rw [he] at hv
        have hv : Except.ok (whereF w fun _ => true) = Except.ok (ε := Int) v := hv
        injection hv with hv
        subst hv
        rw [where_get _ _ hkn]; rfl
    · subst e
      obtain ⟨x, rfl, hx⟩ := right1 h (s1 := 3) rfl rfl
      have hxo : x.op = 14 := by
        have hs := right_sort hx (by decide)
        have r := (right_iff x 3).1 hx
        have : ∀ k : Fin 29, (shpAt (k.1 : Int)).sort = 3 → (k.1 : Int) = 14 := by decide
        have h2 := this ⟨x.op.toNat, by have := r.op1; have := r.op2; omega⟩
        have h1 := r.op1
        simp only [Int.toNat_of_nonneg (show 0 ≤ x.op by omega)] at h2
        exact h2 hs
      rw [badS, if_neg (by decide), if_pos rfl] at hb
      obtain ⟨q1, q2⟩ := plc_of hb
      obtain ⟨u, hu, hu2⟩ := hC.nod _ q1
      rw [q2] at hu
      have hu : getF w.names x.nm 3 = some u := hu
      rw [regT, if_neg (by decide), if_pos rfl, hu2 k hk]
      rw [evL1] at hv
      cases x with | mk xo xn xi xa =>
      have hxo : xo = 14 := hxo
      subst hxo
      have hu : getF w.names xn 3 = some u := hu
      cases he : evL w xa with
      | error e => rw [evV_eq, he] at hv; cases hv
      | ok vs =>
        have hx2 : evV w (.mk 14 xn xi xa) = .ok u := by
          rw [evV_eq, he]
          show nameV w xn 3 = .ok u
          unfold nameV; rw [hu]
        rw [hx2] at hv
        have hv : Except.ok (whereF w fun i => decide ((i : Int) = u.n)) = Except.ok (ε := Int) v := hv
        injection hv with hv
        subst hv
        rw [where_get _ _ hkn]
        have := (getF_okV hC.right hu).nod rfl
        exact decide_eq_decide.2 (by omega)
    · exact two (.inl e)
    · exact two (.inr (.inl e))
    · exact two (.inr (.inr e))
theorem set_val (hC : Counted p w rg l) {t : Tm} (h : rightT t 2 = true) (hb : badS p t = false) {v : Vl} (hv : evV w t = .ok v) : v.s = rg.map (regT p t) := by
  have hl := (evV_ok hC.right h (by decide) hv).len
  rw [if_pos rfl, ← hC.len] at hl
  apply List.ext_getElem (by rw [List.length_map, hl])
  intro k h1 h2
  have := set_at hC t h hb v hv k (by omega)
  rw [getD_lt' h1, getD_lt' (show k < rg.length by omega)] at this
  rw [this, List.getElem_map]
/-- the sum of some regions' numbers -/
theorem count_sum (f : Nat → Bool) (n : Nat) : ∀ (rg : List Nat), (∀ x ∈ rg, x < n) → sumN (fun r => if f r then (rg.count r : Int) else 0) n = cntF (rg.map f)
  | [], _ => by rw [sumN_zero]; rfl; intro i _; simp
  | x :: rg, h => by
    have ih := count_sum f n rg fun y hy => h y (by simp [hy])
    have e : sumN (fun r => if f r then ((x :: rg).count r : Int) else 0) n = sumN (fun r => (if f r then (rg.count r : Int) else 0) + (if r = x then (if f x then 1 else 0) else 0)) n := by
      refine sumN_congr n fun i hi => ?_
      rw [List.count_cons]
      by_cases hx : i = x
      · subst hx
        cases f i <;> simp
      · cases hf : f i
        · simp [hx]
        · have : ¬ x = i := fun e => hx e.symm
          simp [hx, this]
    rw [e, sumN_add, ih, List.map_cons, cntF, sumN_one (k := x) (x := if f x = true then 1 else 0) (by simp) n (fun i _ hi => by simp [hi]), if_pos (h x (by simp))]
    omega
theorem reg_sum (hC : Counted p w rg l) (f : Nat → Bool) : sumN (fun r => if f r then l.getD r 0 else 0) p.reg = cntF (rg.map f) := by
  rw [← count_sum f p.reg rg hC.lt]
  exact sumN_congr _ fun i hi => by rw [hC.cnt i hi]
theorem rowF_at (p : Pl) (c k : Int) (f : Nat → Bool) (i : Nat) (h : i < p.unk) : (rowF p c k f).c.getD i 0 = if (decide (i < p.reg) && f i) = true then c else 0 := by
  rw [getD_lt' (by rw [rowF_len]; exact h)]
  unfold rowF; simp
theorem rowF_dot (hC : Counted p w rg l) (c k : Int) (f : Nat → Bool) : dotF (rowF p c k f).c l p.unk = c * cntF (rg.map f) := by
  unfold dotF Pl.unk
  rw [sumN_split, sumN_zero p.ints.length (fun i hi => by rw [rowF_at _ _ _ _ _ (by unfold Pl.unk; omega), decide_eq_false (by omega)]; simp), Int.add_zero, ← reg_sum hC, ← sumN_mul]
  refine sumN_congr _ fun i hi => ?_
  rw [rowF_at _ _ _ _ _ (by unfold Pl.unk; omega), decide_eq_true hi, Bool.true_and]
  cases f i <;> simp
theorem join_val {f : Int → Int → Int × Bool} {A B : Int} (hf : ∀ x y, (f x y).2 = true → (f x y).1 = A * x + B * y) {a b r : Rw} {n : Nat} (ha : a.c.length = n) (hb : b.c.length = n) (J : Joined f a b r) (l : List Int) :
    r.k + dotF r.c l n = A * (a.k + dotF a.c l n) + B * (b.k + dotF b.c l n) := by
  have hr := J.len
  have e : dotF r.c l n = sumN (fun i => A * (a.c.getD i 0 * l.getD i 0) + B * (b.c.getD i 0 * l.getD i 0)) n := by
    refine sumN_congr _ fun i hi => ?_
    have h1 : i < a.c.length := by omega
    have h2 : i < b.c.length := by omega
    have h3 : i < r.c.length := by omega
    obtain ⟨q1, q2⟩ := J.at' i h1 h2 h3
    rw [getD_lt' h1, getD_lt' h2, getD_lt' h3, q1, hf _ _ q2, Int.add_mul, Int.mul_assoc, Int.mul_assoc]
  rw [e, sumN_add, sumN_mul, sumN_mul, J.k.1, hf _ _ J.k.2, Int.mul_add, Int.mul_add]
  unfold dotF
  omega
theorem add_lin (x y : Int) (h : (addJ x y).2 = true) : (addJ x y).1 = 1 * x + 1 * y := by rw [addJ_eq h]; omega
theorem sub_lin (x y : Int) (h : (subJ x y).2 = true) : (subJ x y).1 = 1 * x + -1 * y := by rw [subJ_eq h]; omega
theorem mul_lin (n x y : Int) (h : (mulJ n x).2 = true) : (mulJ n x).1 = n * x + 0 * y := by
  rw [Int.zero_mul, Int.add_zero]; exact fitI_in h
theorem fit_n {n : Int} {v : Vl} (h : fit n = .ok v) : v.n = n := by
  unfold fit at h
  split at h
  · injection h with h; rw [← h]
  · cases h
theorem line_val (hC : Counted p w rg l) (t : Tm) : rightT t 1 = true → ∀ r v, lineE p t = .ok r → evV w t = .ok v → r.k + dotF r.c l p.unk = v.n := by
  induction t using Tm.ind' with
  | h t ih =>
    intro h r v hr hv
    have ho := right_int h
    cases t with | mk op nm n a =>
    simp only [Tm.op] at ho
    rw [evV_eq] at hv
    have two : (op = 4 ∨ op = 5) → ∃ x y u z xv yv, joinE (if op = 4 then addJ else subJ) u z = .ok r ∧ u.c.length = p.unk ∧ z.c.length = p.unk ∧ opV w op nm n [xv, yv] = .ok v ∧ u.k + dotF u.c l p.unk = xv.n ∧ z.k + dotF z.c l p.unk = yv.n ∧ a = [x, y] := fun hh => by
      obtain ⟨x, y, rfl, hx, hy⟩ := right2 h (s1 := 1) (s2 := 1) (by rcases hh with e | e <;> rw [e] <;> rfl) (by rcases hh with e | e <;> rw [e] <;> rfl)
      rw [lineE, if_neg (by omega), if_neg (by omega), if_neg (by omega), lineL, lineL, lineL] at hr
      simp only at hr
      rw [if_neg (by omega)] at hr
      rw [evL2] at hv
      cases hu : lineE p x with
      | error e => rw [hu] at hr; cases hr
      | ok u =>
        cases hz : lineE p y with
        | error e => rw [hu, hz] at hr; cases hr
        | ok z =>
          cases hxv : evV w x with
          | error e => rw [hxv] at hv; cases hv
          | ok xv =>
            cases hyv : evV w y with
            | error e => rw [hxv, hyv] at hv; cases hv
            | ok yv =>
              rw [hu, hz] at hr
              rw [hxv, hyv] at hv
              exact ⟨x, y, u, z, xv, yv, hr, line_len x hx u hu, line_len y hy z hz, hv, ih x (by simp [Tm.a]) hx u xv hu hxv, ih y (by simp [Tm.a]) hy z yv hz hyv, rfl⟩
    rcases ho with e | e | e | e | e | e
    · subst e
      rw [lineE, if_pos rfl] at hr
      injection hr with hr
      subst hr
      rw [rowF_dot hC]
      cases he : evL w a with
      | error e => rw [he] at hv; cases hv
      | ok vs =>
        rw [he] at hv
        have hv : Except.ok (vI n) = Except.ok (ε := Int) v := hv
        injection hv with hv
        rw [← hv]
        show n + 0 * _ = n
        rw [Int.zero_mul, Int.add_zero]
    · subst e
      rw [lineE, if_neg (by decide), if_pos rfl] at hr
      cases hq : plcE p.ints nm with
      | error e => rw [hq] at hr; cases hr
      | ok i =>
        rw [hq] at hr
        injection hr with hr
        subst hr
        obtain ⟨q1, q2⟩ := plcE_ok hq
        rw [List.getElem?_eq_getElem q2] at q1
        injection q1 with q1
        obtain ⟨u, hu, hu2⟩ := hC.int i q2
        rw [q1] at hu
        cases he : evL w a with
        | error e => rw [he] at hv; cases hv
        | ok vs =>
          rw [he] at hv
          have hv : nameV w nm 1 = .ok v := hv
          unfold nameV at hv
          rw [hu] at hv
          injection hv with hv
          rw [← hv, ← hu2]
          show 0 + sumN _ p.unk = _
          rw [sumN_one (k := p.reg + i) (x := l.getD (p.reg + i) 0), if_pos (by unfold Pl.unk; omega), Int.zero_add]
          · rw [getD_set', if_pos ⟨rfl, by rw [List.length_replicate]; unfold Pl.unk; omega⟩, Int.one_mul]
          · intro j hj hne
            rw [getD_set', if_neg (by omega), List.getD_eq_getElem?_getD, List.getElem?_replicate]
            split <;> simp
    · subst e
      obtain ⟨x, rfl, hx⟩ := right1 h (s1 := 2) rfl rfl
      rw [lineE, if_neg (by decide), if_neg (by decide), if_pos rfl] at hr
      have hr : (if badS p x = true then .error 4 else .ok (rowF p 1 0 (regT p x)) : Except Int Rw) = .ok r := hr
      split at hr
      · cases hr
      · next hb =>
        have hb : badS p x = false := by simpa using hb
        injection hr with hr
        subst hr
        rw [rowF_dot hC]
        rw [evL1] at hv
        cases hxv : evV w x with
        | error e => rw [hxv] at hv; cases hv
        | ok xv =>
          rw [hxv] at hv
          have hv : Except.ok (vI (cntF xv.s)) = Except.ok (ε := Int) v := hv
          injection hv with hv
          rw [← hv, set_val hC hx hb hxv]
          show 0 + 1 * _ = _
          rw [Int.one_mul, Int.zero_add]
    · obtain ⟨x, y, u, z, xv, yv, hj, l1, l2, hv2, e1, e2, rfl⟩ := two (.inl e)
      subst e
      rw [if_pos rfl] at hj
      have := join_val (A := 1) (B := 1) add_lin l1 l2 (joinE_spec (by omega) hj) l
      rw [this, e1, e2, fit_n (show fit (xv.n + yv.n) = .ok v from hv2)]
      omega
    · obtain ⟨x, y, u, z, xv, yv, hj, l1, l2, hv2, e1, e2, rfl⟩ := two (.inr e)
      subst e
      rw [if_neg (by decide)] at hj
      have := join_val (A := 1) (B := -1) sub_lin l1 l2 (joinE_spec (by omega) hj) l
      rw [this, e1, e2, fit_n (show fit (xv.n - yv.n) = .ok v from hv2)]
      omega
    · subst e
      obtain ⟨x, rfl, hx⟩ := right1 h (s1 := 1) rfl rfl
      rw [lineE, if_neg (by decide), if_neg (by decide), if_neg (by decide), lineL, lineL] at hr
      simp only at hr
      rw [if_pos trivial] at hr
      rw [evL1] at hv
      cases hu : lineE p x with
      | error e => rw [hu] at hr; cases hr
      | ok u =>
        cases hxv : evV w x with
        | error e => rw [hxv] at hv; cases hv
        | ok xv =>
          rw [hu] at hr
          rw [hxv] at hv
          have l1 := line_len x hx u hu
          have hj : joinE (fun y _ => mulJ n y) u u = .ok r := hr
          have := join_val (A := n) (B := 0) (fun x y h => mul_lin n x y h) l1 l1 (joinE_spec rfl hj) l
          rw [this, ih x (by simp [Tm.a]) hx u xv hu hxv, fit_n (show fit (n * xv.n) = .ok v from hv), Int.zero_mul, Int.add_zero]
/-- VennHolds: a row holds of a world's unknowns just if its Le holds in it -/
theorem row_holds (hC : Counted p w rg l) {x y : Tm} {b : Bool} {r : Rw} {v : Vl} (hr : RowF p (mk 22 [x, y]) b = (r, 0)) (hv : evV w (mk 22 [x, y]) = .ok v) (ho : (HoldsF r l).2 = true) : (HoldsF r l).1 = (v.b == b) := by
  obtain ⟨u, z, hx, hy, hu, hz, lu, lz, hj⟩ := RowF_le hr
  have hlr : r.c.length = p.unk := by
    split at hj
    · rw [joinE_len (by omega) hj]; omega
    · cases hq : joinE subJ z u with
      | error e => rw [hq] at hj; cases hj
      | ok q =>
        rw [hq] at hj
        have hj : joinE addJ q (rowF p 0 1 fun _ => false) = .ok r := hj
        have lq := joinE_len (by omega) hq
        rw [joinE_len (by rw [rowF_len]; omega) hj]; omega
  unfold mk at hv
  rw [evV_eq, evL2] at hv
  cases hxv : evV w x with
  | error e => rw [hxv] at hv; cases hv
  | ok xv =>
    cases hyv : evV w y with
    | error e => rw [hxv, hyv] at hv; cases hv
    | ok yv =>
      rw [hxv, hyv] at hv
      have hv : Except.ok (vB (decide (xv.n ≤ yv.n))) = Except.ok (ε := Int) v := hv
      injection hv with hv
      subst hv
      have e1 := line_val hC x hx u xv hu hxv
      have e2 := line_val hC y hy z yv hz hyv
      unfold HoldsF at ho ⊢
      cases hs : sumH r.k r.c l with
      | none => rw [hs] at ho; cases ho
      | some m =>
        have hm := sumH_spec _ _ _ _ hs
        rw [hlr, hC.unk, Nat.min_self] at hm
        simp only
        have key : m ≤ 0 ↔ (xv.n ≤ yv.n ↔ b = true) := by
          cases b with
          | true =>
            rw [if_pos rfl] at hj
            have := join_val (A := 1) (B := -1) sub_lin lu lz (joinE_spec (by omega) hj) l
            simp only [iff_true]
            omega
          | false =>
            rw [if_neg (by decide)] at hj
            cases hq : joinE subJ z u with
            | error e => rw [hq] at hj; cases hj
            | ok q =>
              rw [hq] at hj
              have hj : joinE addJ q (rowF p 0 1 fun _ => false) = .ok r := hj
              have lq := joinE_len (by omega) hq
              have t1 := join_val (A := 1) (B := -1) sub_lin lz lu (joinE_spec (by omega) hq) l
              have t2 := join_val (A := 1) (B := 1) add_lin (by omega) (rowF_len ..) (joinE_spec (by rw [rowF_len]; omega) hj) l
              rw [rowF_dot hC, Int.zero_mul] at t2
              have t3 : (rowF p 0 1 fun _ => false).k = 1 := rfl
              rw [t3] at t2
              simp only [Bool.false_eq_true, iff_false]
              omega
        show decide (m ≤ 0) = (decide (xv.n ≤ yv.n) == b)
        by_cases hh : xv.n ≤ yv.n
        · rw [decide_eq_true hh]
          cases b with
          | true => exact decide_eq_true (key.2 ⟨fun _ => rfl, fun _ => hh⟩)
          | false => exact decide_eq_false (fun q => by have := (key.1 q).1 hh; cases this)
        · rw [decide_eq_false hh]
          cases b with
          | true => exact decide_eq_false (fun q => hh ((key.1 q).2 rfl))
          | false => exact decide_eq_true (key.2 ⟨fun q => absurd q hh, fun q => by cases q⟩)
/-- a row of ones and nothing else, in the regions -/
theorem rowF_holds (hC : Counted p w rg l) (c k : Int) (f : Nat → Bool) (hc : c = 1 ∨ c = -1) (hk : -1 ≤ k ∧ k ≤ 1) : sumH k (rowF p c k f).c (l.take p.reg) = some (k + c * cntF (rg.map f)) := by
  have hu := hC.unk
  have hru : p.reg ≤ p.unk := by unfold Pl.unk; omega
  have hreg := p.reg_pos
  have hcl := rowF_len p c k f
  have hmin : min (rowF p c k f).c.length (l.take p.reg).length = p.reg := by rw [hcl, List.length_take]; omega
  have htk : ∀ i, i < p.reg → (l.take p.reg).getD i 0 = l.getD i 0 := fun i hi => by
    rw [List.getD_eq_getElem?_getD, List.getD_eq_getElem?_getD, List.getElem?_take, if_pos hi]
  have hw := rightW_spec hC.right
  have hcnt : ∀ i, i < p.reg → 0 ≤ l.getD i 0 ∧ l.getD i 0 ≤ 64 := fun i hi => by
    rw [hC.cnt i hi]
    have := List.count_le_length (a := i) (l := rg)
    have := hC.len
    omega
  have hsm : ∀ i, i < p.reg → -64 ≤ (rowF p c k f).c.getD i 0 * l.getD i 0 ∧ (rowF p c k f).c.getD i 0 * l.getD i 0 ≤ 64 := fun i hi => by
    have h64 := hcnt i hi
    rw [rowF_at _ _ _ _ _ (by omega)]
    split
    · rcases hc with rfl | rfl
      · rw [Int.one_mul]; omega
      · rw [Int.neg_mul, Int.one_mul]; omega
    · rw [Int.zero_mul]; omega
  have hs := sumH_cut (rowF p c k f).c (l.take p.reg) k (fun i hi => by rw [hmin] at hi; rw [htk i hi]; exact hsm i hi) (by rw [List.length_take]; omega) (by rw [List.length_take]; omega)
  rw [hs, hmin]
  congr 2
  rw [← rowF_dot hC c k f]
  unfold dotF Pl.unk
  rw [sumN_split, sumN_zero p.ints.length (fun i hi => by rw [rowF_at _ _ _ _ _ (by unfold Pl.unk; omega), decide_eq_false (by omega)]; simp), Int.add_zero]
  exact sumN_congr _ fun i hi => by rw [htk i hi]
end
end Go.V
/- Base holds of each world; the world of one node in one region. -/
set_option linter.unusedVariables false
namespace Go.V
open Go
theorem cntF_nn : ∀ l : List Bool, 0 ≤ cntF l
  | [] => by simp [cntF]
  | x :: r => by have := cntF_nn r; rw [cntF]; split <;> omega
theorem cntF_all {α : Type} : ∀ l : List α, cntF (l.map fun _ => true) = l.length
  | [] => rfl
  | x :: r => by rw [List.map_cons, cntF, cntF_all r, List.length_cons, if_pos rfl]; omega
theorem cntF_at {f : Nat → Bool} {m : Nat} : ∀ (rg : List Nat) (o : Nat), (∀ k, k < rg.length → f (rg.getD k 0) = decide (o + k = m)) → cntF (rg.map f) = if o ≤ m ∧ m < o + rg.length then 1 else 0
  | [], o, _ => by simp [cntF]
  | x :: rg, o, h => by
    have h0 := h 0 (by simp)
    have ih := cntF_at (f := f) (m := m) rg (o + 1) fun k hk => by
      have := h (k + 1) (by simpa using hk)
      rw [List.getD_cons_succ] at this
      rw [this]
      exact decide_eq_decide.2 (by omega)
    rw [List.getD_cons_zero, Nat.add_zero] at h0
    rw [List.map_cons, cntF, ih, h0, List.length_cons]
    by_cases e : o = m
    · rw [decide_eq_true e, if_pos rfl, if_neg (by omega), if_pos (by omega)]; rfl
    · rw [decide_eq_false e, if_neg (by simp)]
      by_cases e2 : o ≤ m ∧ m < o + (rg.length + 1)
      · rw [if_pos e2, if_pos (by omega)]; rfl
      · rw [if_neg e2, if_neg (by omega)]; rfl
section
variable {p : Pl} {w : Wd} {rg : List Nat} {l : List Int}
theorem holds_some {r : Rw} {m : Int} (h : sumH r.k r.c l = some m) (h0 : m ≤ 0) : HoldsF r l = (true, true) := by
  unfold HoldsF
  rw [h]
  simp [h0]
theorem base_one (hC : Counted p w rg l) (f : Nat → Bool) : HoldsF (rowF p (-1) 0 f) (l.take p.reg) = (true, true) := by
  have h0 := cntF_nn (rg.map f)
  exact holds_some (rowF_holds hC (-1) 0 f (.inr rfl) (by omega)) (by omega)
theorem base_all (hC : Counted p w rg l) : HoldsF (rowF p (-1) 1 fun _ => true) (l.take p.reg) = (true, true) := by
  have hw := rightW_spec hC.right
  have hl := hC.len
  refine holds_some (rowF_holds hC (-1) 1 _ (.inr rfl) (by omega)) ?_
  rw [cntF_all]
  omega
theorem node_one (hC : Counted p w rg l) {j : Nat} (hj : j < p.nodes.length) : cntF (rg.map fun r => inB r (p.sets.length + j)) = 1 := by
  obtain ⟨v, hv, h2⟩ := hC.nod j hj
  have h3 := (getF_okV hC.right hv).nod rfl
  have hl := hC.len
  rw [cntF_at (m := v.n.toNat) rg 0 fun k hk => by rw [h2 k hk, Nat.zero_add], if_pos (by omega)]
theorem base_up (hC : Counted p w rg l) {j : Nat} (hj : j < p.nodes.length) : HoldsF (rowF p 1 (-1) fun r => inB r (p.sets.length + j)) (l.take p.reg) = (true, true) := by
  have h1 := node_one hC hj
  exact holds_some (rowF_holds hC 1 (-1) _ (.inl rfl) (by omega)) (by rw [h1]; omega)
theorem base_down (hC : Counted p w rg l) {j : Nat} (hj : j < p.nodes.length) : HoldsF (rowF p (-1) 1 fun r => inB r (p.sets.length + j)) (l.take p.reg) = (true, true) := by
  have h1 := node_one hC hj
  exact holds_some (rowF_holds hC (-1) 1 _ (.inr rfl) (by omega)) (by rw [h1]; omega)
end
/-- one node there, and of each circle of a node its own -/
def regL1 (p : Pl) (region : Nat) : Nat → List Int
  | 0 => (List.replicate p.unk 0).set region 1
  | m + 1 => (regL1 p region m).set (2 ^ (p.sets.length + m)) 1
theorem regL1_len (p : Pl) (r : Nat) : ∀ m, (regL1 p r m).length = p.unk
  | 0 => by rw [regL1, List.length_set, List.length_replicate]
  | m + 1 => by rw [regL1, List.length_set, regL1_len p r m]
theorem sumN_set {f : Nat → Bool} {l : List Int} {k n : Nat} (hk : k < n) (hl : k < l.length) (h0 : l.getD k 0 = 0) : sumN (fun i => if f i then (l.set k 1).getD i 0 else 0) n = sumN (fun i => if f i then l.getD i 0 else 0) n + if f k then 1 else 0 := by
  have e : sumN (fun i => if f i then (l.set k 1).getD i 0 else 0) n = sumN (fun i => (if f i then l.getD i 0 else 0) + (if i = k then (if f k then 1 else 0) else 0)) n := by
    refine sumN_congr _ fun i hi => ?_
    by_cases hik : k = i
    · subst hik
      have e1 : (l.set k 1).getD k 0 = 1 := by rw [getD_set', if_pos ⟨rfl, hl⟩]
      rw [e1, h0]
      cases f k <;> simp
    · have e1 : (l.set k 1).getD i 0 = l.getD i 0 := by rw [getD_set', if_neg (by omega)]
      have e2 : ¬ i = k := fun h => hik h.symm
      rw [e1]; simp [e2]
  rw [e, sumN_add, sumN_one (f := fun i => if i = k then (if f k then 1 else 0) else 0) (k := k) (x := if f k then 1 else 0) (by simp) n (fun i _ hi => by simp [hi]), if_pos hk]
theorem pow_ne {a b : Nat} (h : a < b) : 2 ^ a < 2 ^ b := Nat.pow_lt_pow_right (by omega) h
section
variable {p : Pl} {r : Nat}
theorem regL1_zero (hr : r < 2 ^ p.sets.length) : ∀ m k, p.sets.length + m ≤ k → (regL1 p r m).getD (2 ^ k) 0 = 0
  | 0, k, h => by
    have : 2 ^ p.sets.length ≤ 2 ^ k := Nat.pow_le_pow_right (by omega) h
    rw [regL1, getD_set', if_neg (by omega), List.getD_eq_getElem?_getD, List.getElem?_replicate]
    split <;> rfl
  | m + 1, k, h => by
    have : 2 ^ (p.sets.length + m) < 2 ^ k := pow_ne (by omega)
    rw [regL1, getD_set', if_neg (by omega)]
    exact regL1_zero hr m k (by omega)
theorem regL1_nn : ∀ m i, 0 ≤ (regL1 p r m).getD i 0 ∧ (regL1 p r m).getD i 0 ≤ 1
  | 0, i => by
    rw [regL1, getD_set']
    split
    · omega
    · rw [List.getD_eq_getElem?_getD, List.getElem?_replicate]
      split <;> simp
  | m + 1, i => by
    rw [regL1, getD_set']
    split
    · omega
    · exact regL1_nn m i
/-- how many of the circles' own regions do something -/
def pows (f : Nat → Bool) (s : Nat) : Nat → Int
  | 0 => 0
  | m + 1 => pows f s m + if f (2 ^ (s + m)) then 1 else 0
theorem regL1_sum (h6 : p.circ ≤ 6) (hr : r < 2 ^ p.sets.length) (f : Nat → Bool) : ∀ m, m ≤ p.nodes.length → sumN (fun i => if f i then (regL1 p r m).getD i 0 else 0) p.reg = (if f r then 1 else 0) + pows f p.sets.length m
  | 0, _ => by
    have hreg : p.reg = 2 ^ p.circ := by unfold Pl.reg; rw [Nat.min_eq_left h6]
    have hle : 2 ^ p.sets.length ≤ 2 ^ p.circ := Nat.pow_le_pow_right (by omega) (by unfold Pl.circ; omega)
    have hz : ∀ i, (List.replicate p.unk (0 : Int)).getD i 0 = 0 := fun i => by
      rw [List.getD_eq_getElem?_getD, List.getElem?_replicate]; split <;> rfl
    rw [regL1, sumN_set (by omega) (by rw [List.length_replicate]; unfold Pl.unk; omega) (hz r), sumN_zero, pows]
    · omega
    · intro i _; rw [hz]; simp
  | m + 1, hm => by
    have hreg : p.reg = 2 ^ p.circ := by unfold Pl.reg; rw [Nat.min_eq_left h6]
    have hlt : 2 ^ (p.sets.length + m) < 2 ^ p.circ := pow_ne (by unfold Pl.circ; omega)
    rw [regL1, sumN_set (by omega) (by rw [regL1_len]; unfold Pl.unk; omega) (regL1_zero hr m _ (Nat.le_refl _)), regL1_sum h6 hr f m (by omega), pows]
    omega
theorem pows_true (s : Nat) : ∀ m, pows (fun _ => true) s m = m
  | 0 => rfl
  | m + 1 => by rw [pows, pows_true s m, if_pos rfl]; omega
theorem inB_pow (a b : Nat) : inB (2 ^ a) b = decide (a = b) := by rw [inB_bit, Nat.testBit_two_pow]
theorem pows_node (s j : Nat) : ∀ m, pows (fun r => inB r (s + j)) s m = if j < m then 1 else 0
  | 0 => rfl
  | m + 1 => by
    rw [pows, pows_node s j m, inB_pow]
    by_cases h : m = j
    · subst h; rw [if_neg (by omega), decide_eq_true rfl, if_pos rfl, if_pos (by omega)]; rfl
    · rw [decide_eq_false (by omega : ¬ s + m = s + j)]
      by_cases h2 : j < m
      · rw [if_pos h2, if_pos (by omega : j < m + 1)]; rfl
      · rw [if_neg h2, if_neg (by omega : ¬ j < m + 1)]; rfl
theorem pows_set {s i : Nat} (h : i < s) : ∀ m, pows (fun r => inB r i) s m = 0
  | 0 => rfl
  | m + 1 => by rw [pows, pows_set h m, inB_pow, decide_eq_false (by omega : ¬ s + m = i)]; rfl
theorem inB_small {r s j : Nat} (h : r < 2 ^ s) : inB r (s + j) = false := by
  unfold inB
  have : r / 2 ^ (s + j) = 0 := Nat.div_eq_of_lt (Nat.lt_of_lt_of_le h (Nat.pow_le_pow_right (by omega) (by omega)))
  rw [this]; rfl
end
end Go.V
