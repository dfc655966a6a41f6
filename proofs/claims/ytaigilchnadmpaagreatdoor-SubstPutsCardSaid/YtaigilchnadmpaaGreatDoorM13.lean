/- Fresh names. -/
import Derived.Test.YtaigilchnadmpaaGreatDoorM12
set_option linter.unusedVariables false
namespace Go.V
open Go
def digL (k : Nat) : List UInt8 := if k < 10 then [UInt8.ofNat (48 + k)] else [UInt8.ofNat (48 + k / 10), UInt8.ofNat (48 + k % 10)]
def tryL (l : List UInt8) (k : Nat) : List UInt8 := l.take 13 ++ [95] ++ digL k
def baseL (l : List UInt8) : List UInt8 := if nameF l = true then l else [120]
def takenF (ts : List Tm) (l : List UInt8) : Bool := ts.any fun t => freeF t (str l)
def freshG (tk : List UInt8 → Bool) (l : List UInt8) : Nat → Nat → List UInt8
  | k, 0 => tryL l k
  | k, n + 1 => if tk (tryL l k) then freshG tk l (k + 1) n else tryL l k
def freshL (ts : List Tm) (l : List UInt8) : List UInt8 := if takenF ts (baseL l) then freshG (takenF ts) (baseL l) 0 99 else baseL l
theorem digL_len (k : Nat) : (digL k).length ≤ 2 ∧ 1 ≤ (digL k).length := by unfold digL; split <;> simp
theorem digL_chars {k : Nat} (h : k < 100) : ∀ x ∈ digL k, inS chars x = true := by
  have : ∀ i : Fin 100, ∀ x ∈ digL i.1, inS chars x = true := by decide +kernel
  exact this ⟨k, h⟩
theorem digL_inj {i j : Nat} (hi : i < 100) (hj : j < 100) (h : digL i = digL j) : i = j := by
  have : ∀ i j : Fin 100, digL i.1 = digL j.1 → i = j := by decide +kernel
  exact congrArg Fin.val (this ⟨i, hi⟩ ⟨j, hj⟩ h)
theorem tryL_inj {l : List UInt8} {i j : Nat} (hi : i < 100) (hj : j < 100) (h : tryL l i = tryL l j) : i = j := digL_inj hi hj (List.append_cancel_left h)
theorem name_iff {l : List UInt8} : nameF l = true ↔ ∃ x r, l = x :: r ∧ l.length ≤ 16 ∧ 0 ≤ Lib.indexByte letters x ∧ ∀ y ∈ l, inS chars y = true := by
  cases l with
  | nil => exact ⟨fun h => (by cases h), fun ⟨_, _, h, _⟩ => (by cases h)⟩
  | cons x r =>
    unfold nameF
    simp only [Bool.and_eq_true, decide_eq_true_eq, trim_nil]
    constructor
    · rintro ⟨⟨h1, h2⟩, h3⟩; exact ⟨x, r, rfl, h1, h2, h3⟩
    · rintro ⟨y, s, e, h1, h2, h3⟩
      cases e
      exact ⟨⟨h1, h2⟩, h3⟩
theorem base_name (l : List UInt8) : nameF (baseL l) = true := by
  unfold baseL
  split
  · assumption
  · decide +kernel
theorem try_name {l : List UInt8} {k : Nat} (h : nameF l = true) (hk : k < 100) : nameF (tryL l k) = true := by
  obtain ⟨x, r, rfl, h1, h2, h3⟩ := name_iff.1 h
  refine name_iff.2 ⟨x, r.take 12 ++ [95] ++ digL k, by unfold tryL; rfl, ?_, h2, ?_⟩
  · unfold tryL
    have := digL_len k
    simp only [List.length_append, List.length_take, List.length_cons, List.length_nil]
    omega
  · intro y hy
    unfold tryL at hy
    rw [List.mem_append, List.mem_append] at hy
    rcases hy with (hy | hy) | hy
    · exact h3 y (List.mem_of_mem_take hy)
    · rw [List.mem_singleton] at hy; subst hy; decide +kernel
    · exact digL_chars hk y hy
theorem freshG_try (tk : List UInt8 → Bool) (l : List UInt8) : ∀ n k, ∃ j, k ≤ j ∧ j ≤ k + n ∧ freshG tk l k n = tryL l j
  | 0, k => ⟨k, Nat.le_refl _, Nat.le_refl _, rfl⟩
  | n + 1, k => by
    rw [freshG]
    split
    · obtain ⟨j, h1, h2, h3⟩ := freshG_try tk l n (k + 1)
      exact ⟨j, by omega, by omega, h3⟩
    · exact ⟨k, Nat.le_refl _, by omega, rfl⟩
theorem freshG_free (tk : List UInt8 → Bool) (l : List UInt8) : ∀ n k, (∃ j, k ≤ j ∧ j ≤ k + n ∧ tk (tryL l j) = false) → tk (freshG tk l k n) = false
  | 0, k, h => by
    obtain ⟨j, h1, h2, h3⟩ := h
    obtain rfl : j = k := by omega
    exact h3
  | n + 1, k, h => by
    rw [freshG]
    split
    · next hk =>
      obtain ⟨j, h1, h2, h3⟩ := h
      refine freshG_free tk l n (k + 1) ⟨j, ?_, by omega, h3⟩
      rcases Nat.eq_or_lt_of_le h1 with rfl | h1
      · rw [hk] at h3; cases h3
      · exact h1
    · next hk => simpa using hk
theorem fresh_name (ts : List Tm) (l : List UInt8) : nameF (freshL ts l) = true := by
  unfold freshL
  split
  · obtain ⟨j, _, h2, h3⟩ := freshG_try (takenF ts) (baseL l) 99 0
    rw [h3]
    exact try_name (base_name l) (by omega)
  · exact base_name l
theorem take_try (l : List UInt8) (k : Nat) : (tryL l k).take (min l.length 13) = l.take (min l.length 13) := by
  unfold tryL
  rw [List.append_assoc, List.take_append_of_le_length (by rw [List.length_take]; omega), List.take_take]
  congr 1
  omega
theorem fresh_take (ts : List Tm) (l : List UInt8) : min (baseL l).length 13 ≤ (freshL ts l).length ∧ (freshL ts l).take (min (baseL l).length 13) = (baseL l).take (min (baseL l).length 13) := by
  unfold freshL
  split
  · obtain ⟨j, _, h2, h3⟩ := freshG_try (takenF ts) (baseL l) 99 0
    rw [h3]
    refine ⟨?_, take_try _ _⟩
    unfold tryL
    simp only [List.length_append, List.length_take]
    omega
  · exact ⟨by omega, rfl⟩
theorem nodup_sub {α : Type} [DecidableEq α] : ∀ {l m : List α}, l.Nodup → (∀ x ∈ l, x ∈ m) → l.length ≤ m.length
  | [], _, _, _ => Nat.zero_le _
  | x :: l, m, h, hs => by
    rw [List.nodup_cons] at h
    have hx := hs x (by simp)
    have := nodup_sub (l := l) (m := m.erase x) h.2 fun y hy => (List.mem_erase_of_ne (fun (e : y = x) => h.1 (by rw [← e]; exact hy))).2 (hs y (by simp [hy]))
    rw [List.length_erase_of_mem hx] at this
    have := List.length_pos_of_mem hx
    rw [List.length_cons]; omega
def namesN (ts : List Tm) : Nat := match ts with | [] => 0 | t :: r => (NamesF t).length + namesN r
theorem namesN_flat (ts : List Tm) : (ts.flatMap fun t => (NamesF t).map Prod.fst).length = namesN ts := by
  induction ts with
  | nil => rfl
  | cons t r ih => rw [List.flatMap_cons, List.length_append, ih, List.length_map]; rfl
theorem fresh_free {ts : List Tm} (l : List UInt8) (h : namesN ts < 100) : takenF ts (freshL ts l) = false := by
  unfold freshL
  split
  · refine freshG_free _ _ 99 0 (Classical.byContradiction fun hn => ?_)
    have hall : ∀ j, j < 100 → takenF ts (tryL (baseL l) j) = true := fun j hj => by
      cases e : takenF ts (tryL (baseL l) j)
      · exact absurd ⟨j, Nat.zero_le _, by omega, e⟩ hn
      · rfl
    have hnd : ((List.range 100).map (tryL (baseL l))).Nodup := by
      rw [List.Nodup, List.pairwise_map]
      refine List.Pairwise.imp_of_mem ?_ (List.nodup_range (n := 100))
      intro i j hi hj hne he
      rw [List.mem_range] at hi hj
      exact hne (tryL_inj hi hj he)
    have := nodup_sub (m := ts.flatMap fun t => (NamesF t).map Prod.fst) hnd fun x hx => by
      obtain ⟨j, hj, rfl⟩ := List.mem_map.1 hx
      have := hall j (List.mem_range.1 hj)
      unfold takenF at this
      rw [List.any_eq_true] at this
      obtain ⟨t, ht, hf⟩ := this
      unfold freeF at hf
      rw [List.any_eq_true] at hf
      obtain ⟨y, hy, he⟩ := hf
      have he : str y.1 = str (tryL (baseL l) j) := by simpa using he
      exact List.mem_flatMap.2 ⟨t, ht, List.mem_map.2 ⟨y, hy, str_inj he⟩⟩
    rw [List.length_map, List.length_range, namesN_flat] at this
    omega
  · next hk => simpa using hk
end Go.V
