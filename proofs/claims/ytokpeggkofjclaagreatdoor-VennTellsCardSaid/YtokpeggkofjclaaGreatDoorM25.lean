/- What is counted of a world, node by node, and what a row is of it. -/
import Derived.Test.YtokpeggkofjclaaGreatDoorM21
import Derived.Test.YtokpeggkofjclaaGreatDoorM6
set_option linter.unusedVariables false
namespace Go.V
open Go
def sumN (g : Nat → Int) : Nat → Int
  | 0 => 0
  | n + 1 => sumN g n + g n
theorem sumN_congr {f g : Nat → Int} : ∀ n, (∀ i, i < n → f i = g i) → sumN f n = sumN g n
  | 0, _ => rfl
  | n + 1, h => by rw [sumN, sumN, sumN_congr n fun i hi => h i (by omega), h n (by omega)]
theorem sumN_add (f g : Nat → Int) : ∀ n, sumN (fun i => f i + g i) n = sumN f n + sumN g n
  | 0 => rfl
  | n + 1 => by rw [sumN, sumN, sumN, sumN_add f g n]; omega
theorem sumN_zero {f : Nat → Int} : ∀ n, (∀ i, i < n → f i = 0) → sumN f n = 0
  | 0, _ => rfl
  | n + 1, h => by rw [sumN, sumN_zero n fun i hi => h i (by omega), h n (by omega)]; rfl
theorem sumN_one {f : Nat → Int} {k : Nat} {x : Int} (h1 : f k = x) : ∀ n, (∀ i, i < n → i ≠ k → f i = 0) → sumN f n = if k < n then x else 0
  | 0, _ => by simp [sumN]
  | n + 1, h => by
    rw [sumN, sumN_one h1 n fun i hi => h i (by omega)]
    by_cases hk : k = n
    · subst hk; rw [h1, if_neg (by omega), if_pos (by omega)]; omega
    · rw [h n (by omega) (fun e => hk e.symm)]
      by_cases hkn : k < n
      · rw [if_pos hkn, if_pos (by omega)]; omega
      · rw [if_neg hkn, if_neg (by omega)]; rfl
end Go.V
/- What is counted of a world, node by node. -/
set_option linter.unusedVariables false
namespace Go.V
open Go
theorem getD_set' {α : Type} (l : List α) (i j : Nat) (x d : α) : (l.set i x).getD j d = if i = j ∧ j < l.length then x else l.getD j d := by
  rw [List.getD_eq_getElem?_getD, List.getD_eq_getElem?_getD, List.getElem?_set]
  by_cases h : i = j
  · subst h
    by_cases hl : i < l.length
    · rw [if_pos rfl, if_pos hl, if_pos ⟨rfl, hl⟩]; rfl
    · rw [if_pos rfl, if_neg hl, if_neg (by omega), List.getElem?_eq_none (by omega)]
  · rw [if_neg h, if_neg (by omega)]
theorem inB_bit (r c : Nat) : inB r c = r.testBit c := by unfold inB; rw [Nat.testBit_eq_decide_div_mod_eq]
theorem tally_at : ∀ (rg : List Nat) (l : List Int) (r : Nat), (∀ x ∈ rg, x < l.length) → (tally l rg).getD r 0 = l.getD r 0 + rg.count r
  | [], l, r, _ => by simp [tally]
  | x :: rg, l, r, h => by
    have hx := h x (by simp)
    rw [tally, tally_at rg _ r (fun y hy => by rw [List.length_set]; exact h y (by simp [hy])), getD_set', List.count_cons]
    by_cases e : x = r
    · subst e; rw [if_pos ⟨rfl, hx⟩]; simp; omega
    · rw [if_neg (by omega)]; simp [e]
theorem markI_at {p : Pl} {w : Wd} : ∀ (l : List ByteArray) (i : Nat) (m m' : List Int), markI p w i l m = some m' → m'.length = m.length ∧ (∀ r, r < p.reg + i → m'.getD r 0 = m.getD r 0) ∧ ∀ j (hj : j < l.length), ∃ v, getF w.names l[j] 1 = some v ∧ (p.reg + (i + j) < m.length → m'.getD (p.reg + (i + j)) 0 = v.n)
  | [], i, m, m', h => by
    rw [markI] at h; injection h with h; subst h
    exact ⟨rfl, fun r _ => rfl, fun j hj => by simp at hj⟩
  | s :: l, i, m, m', h => by
    rw [markI] at h
    split at h
    · cases h
    · next v hv =>
      obtain ⟨h1, h2, h3⟩ := markI_at l (i + 1) _ m' h
      rw [List.length_set] at h1
      refine ⟨h1, fun r hr => ?_, fun j hj => ?_⟩
      · rw [h2 r (by omega), getD_set', if_neg (by omega)]
      · cases j with
        | zero =>
          refine ⟨v, hv, fun hl => ?_⟩
          rw [h2 _ (by omega), getD_set', if_pos ⟨rfl, hl⟩]
        | succ j =>
          obtain ⟨u, hu, hu2⟩ := h3 j (by simpa using hj)
          refine ⟨u, hu, fun hl => ?_⟩
          rw [List.length_set, show i + 1 + j = i + (j + 1) by omega] at hu2
          exact hu2 hl
theorem orS_at {rg : List Nat} {s : List Bool} {i k : Nat} (hk : k < rg.length) (hs : s.length = rg.length) (c : Nat) : ((orS rg s i).getD k 0).testBit c = ((rg.getD k 0).testBit c || (decide (i = c) && s.getD k false)) := by
  have hks : k < s.length := by omega
  have e : (orS rg s i).getD k 0 = if s[k] = true then rg[k] ||| 2 ^ i else rg[k] := by
    unfold orS
    rw [List.getD_eq_getElem?_getD, List.getElem?_map, List.getElem?_eq_getElem (by rw [List.length_zip]; omega), List.getElem_zip]
    rfl
  rw [e, List.getD_eq_getElem?_getD, List.getD_eq_getElem?_getD, List.getElem?_eq_getElem hk, List.getElem?_eq_getElem hks, Option.getD_some, Option.getD_some]
  cases s[k] with
  | false => simp
  | true => rw [if_pos rfl, Nat.testBit_or, Nat.testBit_two_pow, Bool.and_true]
theorem markS_at {w : Wd} : ∀ (l : List ByteArray) (i : Nat) (rg rg' : List Nat), markS w i l rg = some rg' → (∀ s v, getF w.names s 2 = some v → v.s.length = rg.length) → rg'.length = rg.length ∧
    (∀ k, k < rg.length → ∀ c, (c < i ∨ i + l.length ≤ c) → (rg'.getD k 0).testBit c = (rg.getD k 0).testBit c) ∧
    ∀ j (hj : j < l.length), ∃ v, getF w.names l[j] 2 = some v ∧ ∀ k, k < rg.length → (rg'.getD k 0).testBit (i + j) = ((rg.getD k 0).testBit (i + j) || v.s.getD k false)
  | [], i, rg, rg', h, _ => by
    rw [markS] at h; injection h with h; subst h
    exact ⟨rfl, fun k _ c _ => rfl, fun j hj => by simp at hj⟩
  | s :: l, i, rg, rg', h, hl => by
    rw [markS] at h
    split at h
    · cases h
    · next v hv =>
      have hsl := hl s v hv
      have hol := orS_len (i := i) hsl
      obtain ⟨h1, h2, h3⟩ := markS_at l (i + 1) _ rg' h (fun s v hs => by rw [hol]; exact hl s v hs)
      rw [hol] at h1 h2 h3
      refine ⟨h1, fun k hk c hc => ?_, fun j hj => ?_⟩
      · rw [List.length_cons] at hc
        rw [h2 k hk c (by omega), orS_at hk hsl, decide_eq_false (by omega : ¬ i = c), Bool.false_and, Bool.or_false]
      · cases j with
        | zero =>
          refine ⟨v, hv, fun k hk => ?_⟩
          rw [h2 k hk _ (by omega), orS_at hk hsl, decide_eq_true (by omega : i = i + 0), Bool.true_and]
        | succ j =>
          obtain ⟨u, hu, hu2⟩ := h3 j (by simpa using hj)
          refine ⟨u, hu, fun k hk => ?_⟩
          have := hu2 k hk
          rw [show i + 1 + j = i + (j + 1) by omega] at this
          rw [this, orS_at hk hsl, decide_eq_false (by omega : ¬ i = i + (j + 1)), Bool.false_and, Bool.or_false]
theorem markN_at {w : Wd} : ∀ (l : List ByteArray) (i : Nat) (rg rg' : List Nat), markN w i l rg = some rg' → rg'.length = rg.length ∧
    (∀ k, k < rg.length → ∀ c, (c < i ∨ i + l.length ≤ c) → (rg'.getD k 0).testBit c = (rg.getD k 0).testBit c) ∧
    ∀ j (hj : j < l.length), ∃ v, getF w.names l[j] 3 = some v ∧ ∀ k, k < rg.length → (rg'.getD k 0).testBit (i + j) = ((rg.getD k 0).testBit (i + j) || decide (k = v.n.toNat))
  | [], i, rg, rg', h => by
    rw [markN] at h; injection h with h; subst h
    exact ⟨rfl, fun k _ c _ => rfl, fun j hj => by simp at hj⟩
  | s :: l, i, rg, rg', h => by
    rw [markN] at h
    split at h
    · cases h
    · next v hv =>
      obtain ⟨h1, h2, h3⟩ := markN_at l (i + 1) _ rg' h
      rw [List.length_set] at h1 h2 h3
      have one : ∀ k, k < rg.length → ∀ c, ((rg.set v.n.toNat (rg.getD v.n.toNat 0 ||| 2 ^ i)).getD k 0).testBit c = ((rg.getD k 0).testBit c || (decide (i = c) && decide (k = v.n.toNat))) := fun k hk c => by
        rw [getD_set']
        by_cases e : v.n.toNat = k
        · rw [if_pos ⟨e, hk⟩, e, Nat.testBit_or, Nat.testBit_two_pow]; simp
        · rw [if_neg (by omega), decide_eq_false (by omega : ¬ k = v.n.toNat), Bool.and_false, Bool.or_false]
      refine ⟨h1, fun k hk c hc => ?_, fun j hj => ?_⟩
      · rw [List.length_cons] at hc
        rw [h2 k hk c (by omega), one k hk, decide_eq_false (by omega : ¬ i = c), Bool.false_and, Bool.or_false]
      · cases j with
        | zero =>
          refine ⟨v, hv, fun k hk => ?_⟩
          rw [h2 k hk _ (by omega), one k hk, decide_eq_true (by omega : i = i + 0), Bool.true_and]
        | succ j =>
          obtain ⟨u, hu, hu2⟩ := h3 j (by simpa using hj)
          refine ⟨u, hu, fun k hk => ?_⟩
          have := hu2 k hk
          rw [show i + 1 + j = i + (j + 1) by omega] at this
          rw [this, one k hk, decide_eq_false (by omega : ¬ i = i + (j + 1)), Bool.false_and, Bool.or_false]
/-- each node's region, the numbers of all regions -/
structure Counted (p : Pl) (w : Wd) (rg : List Nat) (l : List Int) : Prop where
  right : rightW w = true
  len : rg.length = w.nodes.toNat
  lt : ∀ x ∈ rg, x < p.reg
  set : ∀ j (hj : j < p.sets.length), ∃ v, getF w.names p.sets[j] 2 = some v ∧ ∀ k, k < rg.length → inB (rg.getD k 0) j = v.s.getD k false
  nod : ∀ j (hj : j < p.nodes.length), ∃ v, getF w.names p.nodes[j] 3 = some v ∧ ∀ k, k < rg.length → inB (rg.getD k 0) (p.sets.length + j) = decide (k = v.n.toNat)
  unk : l.length = p.unk
  cnt : ∀ r, r < p.reg → l.getD r 0 = rg.count r
  int : ∀ j (hj : j < p.ints.length), ∃ v, getF w.names p.ints[j] 1 = some v ∧ l.getD (p.reg + j) 0 = v.n
theorem getF_okV {w : Wd} {s : ByteArray} {st : Int} {v : Vl} (hw : rightW w = true) (h : getF w.names s st = some v) : OkV w st v := nameV_ok (nm := s) hw (by unfold nameV; rw [h])
theorem CountF_spec {p : Pl} {w : Wd} {l : List Int} (h6 : p.circ ≤ 6) (h : CountF p w = (l, 0)) : ∃ rg, Counted p w rg l := by
  unfold CountF at h
  split at h
  · injection h with _ h; cases h
  · next hw =>
    have hw : rightW w = true := by simpa using hw
    split at h
    · injection h with _ h; cases h
    · next rg1 e1 =>
      split at h
      · injection h with _ h; cases h
      · next rg2 e2 =>
        split at h
        · injection h with _ h; cases h
        · next m e3 =>
          injection h with h _
          subst h
          obtain ⟨a1, a2, a3⟩ := markS_at p.sets 0 _ rg1 e1 (fun s v hs => by
            have := (getF_okV hw hs).len
            rw [if_pos rfl] at this
            rw [this, List.length_replicate])
          rw [List.length_replicate] at a1 a2 a3
          obtain ⟨b1, b2, b3⟩ := markN_at p.nodes p.sets.length rg1 rg2 e2
          rw [a1] at b1 b2 b3
          obtain ⟨c1, c2, c3⟩ := markI_at p.ints 0 _ m e3
          rw [tally_len, List.length_replicate] at c1 c3
          have hz : ∀ k c, ((List.replicate w.nodes.toNat 0).getD k 0).testBit c = false := fun k c => by
            rw [List.getD_eq_getElem?_getD, List.getElem?_replicate]
            split <;> simp
          have hlt : ∀ x ∈ rg2, x < p.reg := fun x hx => by
            obtain ⟨k, hk, rfl⟩ := List.mem_iff_getElem.1 hx
            have hk' : k < w.nodes.toNat := by omega
            unfold Pl.reg
            rw [Nat.min_eq_left h6]
            refine Nat.lt_pow_two_of_testBit _ fun c hc => ?_
            have e : rg2[k] = rg2.getD k 0 := by rw [List.getD_eq_getElem?_getD, List.getElem?_eq_getElem hk, Option.getD_some]
            have hc : p.sets.length + p.nodes.length ≤ c := hc
            rw [e, b2 k hk' c (.inr hc), a2 k hk' c (.inr (by omega)), hz]
          have hru : p.reg ≤ p.unk := by unfold Pl.unk; omega
          refine ⟨rg2, hw, by omega, hlt, fun j hj => ?_, fun j hj => ?_, by omega, fun r hr => ?_, fun j hj => ?_⟩
          · obtain ⟨v, hv, hv2⟩ := a3 j hj
            refine ⟨v, hv, fun k hk => ?_⟩
            rw [b1] at hk
            have := hv2 k hk
            rw [Nat.zero_add, hz, Bool.false_or] at this
            rw [inB_bit, b2 k hk j (.inl hj), this]
          · obtain ⟨v, hv, hv2⟩ := b3 j hj
            refine ⟨v, hv, fun k hk => ?_⟩
            rw [b1] at hk
            rw [inB_bit, hv2 k hk, a2 k hk _ (.inr (by omega)), hz, Bool.false_or]
          · rw [c2 r (by omega), tally_at _ _ _ (fun x hx => by rw [List.length_replicate]; have := hlt x hx; omega), List.getD_eq_getElem?_getD, List.getElem?_replicate]
            split <;> simp
          · obtain ⟨v, hv, hv2⟩ := c3 j hj
            rw [Nat.zero_add] at hv2
            exact ⟨v, hv, hv2 (by unfold Pl.unk; omega)⟩
end Go.V
/- A row's value is its atom's. -/
set_option linter.unusedVariables false
namespace Go.V
open Go
theorem getD_lt' {α : Type} {l : List α} {i : Nat} {d : α} (h : i < l.length) : l.getD i d = l[i] := by
  rw [List.getD_eq_getElem?_getD, List.getElem?_eq_getElem h, Option.getD_some]
section
variable {p : Pl} {w : Wd} {rg : List Nat} {l : List Int}
end
end Go.V
/- Base holds of each world; the world of one node in one region. -/
set_option linter.unusedVariables false
namespace Go.V
open Go
theorem cntF_nn : ∀ l : List Bool, 0 ≤ cntF l
  | [] => by simp [cntF]
  | x :: r => by have := cntF_nn r; rw [cntF]; split <;> omega
theorem cntF_all {α : Type} : ∀ l : List α, cntF (l.map fun _ => true) = l.length
  | [] => rfl
  | x :: r => by rw [List.map_cons, cntF, cntF_all r, List.length_cons, if_pos rfl]; omega
section
variable {p : Pl} {w : Wd} {rg : List Nat} {l : List Int}
end
/-- one node there, and of each circle of a node its own -/
def regL1 (p : Pl) (region : Nat) : Nat → List Int
  | 0 => (List.replicate p.unk 0).set region 1
  | m + 1 => (regL1 p region m).set (2 ^ (p.sets.length + m)) 1
theorem regL1_len (p : Pl) (r : Nat) : ∀ m, (regL1 p r m).length = p.unk
  | 0 => by rw [regL1, List.length_set, List.length_replicate]
  | m + 1 => by rw [regL1, List.length_set, regL1_len p r m]
theorem sumN_set {f : Nat → Bool} {l : List Int} {k n : Nat} (hk : k < n) (hl : k < l.length) (h0 : l.getD k 0 = 0) : sumN (fun i => if f i then (l.set k 1).getD i 0 else 0) n = sumN (fun i => if f i then l.getD i 0 else 0) n + if f k then 1 else 0 := by
  have e : sumN (fun i => if f i then (l.set k 1).getD i 0 else 0) n = sumN (fun i => (if f i then l.getD i 0 else 0) + (if i = k then (if f k then 1 else 0) else 0)) n := by
    refine sumN_congr _ fun i hi => ?_
    by_cases hik : k = i
    · subst hik
      have e1 : (l.set k 1).getD k 0 = 1 := by rw [getD_set', if_pos ⟨rfl, hl⟩]
      rw [e1, h0]
      cases f k <;> simp
    · have e1 : (l.set k 1).getD i 0 = l.getD i 0 := by rw [getD_set', if_neg (by omega)]
      have e2 : ¬ i = k := fun h => hik h.symm
      rw [e1]; simp [e2]
  rw [e, sumN_add, sumN_one (f := fun i => if i = k then (if f k then 1 else 0) else 0) (k := k) (x := if f k then 1 else 0) (by simp) n (fun i _ hi => by simp [hi]), if_pos hk]
theorem pow_ne {a b : Nat} (h : a < b) : 2 ^ a < 2 ^ b := Nat.pow_lt_pow_right (by omega) h
section
variable {p : Pl} {r : Nat}
theorem regL1_zero (hr : r < 2 ^ p.sets.length) : ∀ m k, p.sets.length + m ≤ k → (regL1 p r m).getD (2 ^ k) 0 = 0
  | 0, k, h => by
    have : 2 ^ p.sets.length ≤ 2 ^ k := Nat.pow_le_pow_right (by omega) h
    rw [regL1, getD_set', if_neg (by omega), List.getD_eq_getElem?_getD, List.getElem?_replicate]
    split <;> rfl
  | m + 1, k, h => by
    have : 2 ^ (p.sets.length + m) < 2 ^ k := pow_ne (by omega)
    rw [regL1, getD_set', if_neg (by omega)]
    exact regL1_zero hr m k (by omega)
theorem regL1_nn : ∀ m i, 0 ≤ (regL1 p r m).getD i 0 ∧ (regL1 p r m).getD i 0 ≤ 1
  | 0, i => by
    rw [regL1, getD_set']
    split
    · omega
    · rw [List.getD_eq_getElem?_getD, List.getElem?_replicate]
      split <;> simp
  | m + 1, i => by
    rw [regL1, getD_set']
    split
    · omega
    · exact regL1_nn m i
/-- how many of the circles' own regions do something -/
def pows (f : Nat → Bool) (s : Nat) : Nat → Int
  | 0 => 0
  | m + 1 => pows f s m + if f (2 ^ (s + m)) then 1 else 0
theorem regL1_sum (h6 : p.circ ≤ 6) (hr : r < 2 ^ p.sets.length) (f : Nat → Bool) : ∀ m, m ≤ p.nodes.length → sumN (fun i => if f i then (regL1 p r m).getD i 0 else 0) p.reg = (if f r then 1 else 0) + pows f p.sets.length m
  | 0, _ => by
    have hreg : p.reg = 2 ^ p.circ := by unfold Pl.reg; rw [Nat.min_eq_left h6]
    have hle : 2 ^ p.sets.length ≤ 2 ^ p.circ := Nat.pow_le_pow_right (by omega) (by unfold Pl.circ; omega)
    have hz : ∀ i, (List.replicate p.unk (0 : Int)).getD i 0 = 0 := fun i => by
      rw [List.getD_eq_getElem?_getD, List.getElem?_replicate]; split <;> rfl
    rw [regL1, sumN_set (by omega) (by rw [List.length_replicate]; unfold Pl.unk; omega) (hz r), sumN_zero, pows]
    · omega
    · intro i _; rw [hz]; simp
  | m + 1, hm => by
    have hreg : p.reg = 2 ^ p.circ := by unfold Pl.reg; rw [Nat.min_eq_left h6]
    have hlt : 2 ^ (p.sets.length + m) < 2 ^ p.circ := pow_ne (by unfold Pl.circ; omega)
    rw [regL1, sumN_set (by omega) (by rw [regL1_len]; unfold Pl.unk; omega) (regL1_zero hr m _ (Nat.le_refl _)), regL1_sum h6 hr f m (by omega), pows]
    omega
theorem pows_true (s : Nat) : ∀ m, pows (fun _ => true) s m = m
  | 0 => rfl
  | m + 1 => by rw [pows, pows_true s m, if_pos rfl]; omega
theorem inB_pow (a b : Nat) : inB (2 ^ a) b = decide (a = b) := by rw [inB_bit, Nat.testBit_two_pow]
theorem pows_node (s j : Nat) : ∀ m, pows (fun r => inB r (s + j)) s m = if j < m then 1 else 0
  | 0 => rfl
  | m + 1 => by
    rw [pows, pows_node s j m, inB_pow]
    by_cases h : m = j
    · subst h; rw [if_neg (by omega), decide_eq_true rfl, if_pos rfl, if_pos (by omega)]; rfl
    · rw [decide_eq_false (by omega : ¬ s + m = s + j)]
      by_cases h2 : j < m
      · rw [if_pos h2, if_pos (by omega : j < m + 1)]; rfl
      · rw [if_neg h2, if_neg (by omega : ¬ j < m + 1)]; rfl
theorem pows_set {s i : Nat} (h : i < s) : ∀ m, pows (fun r => inB r i) s m = 0
  | 0 => rfl
  | m + 1 => by rw [pows, pows_set h m, inB_pow, decide_eq_false (by omega : ¬ s + m = i)]; rfl
theorem inB_small {r s j : Nat} (h : r < 2 ^ s) : inB r (s + j) = false := by
  unfold inB
  have : r / 2 ^ (s + j) = 0 := Nat.div_eq_of_lt (Nat.lt_of_lt_of_le h (Nat.pow_le_pow_right (by omega) (by omega)))
  rw [this]; rfl
end
end Go.V
