/- The document's names, sizes and sorts, as plain functions; that they are the program's. -/
import Derived.Test.YtaigilchnadmpaaGreatDoorT1
set_option linter.unusedVariables false
namespace Go.V
def letterB (x : UInt8) : Bool := (decide (97 ≤ x.toNat) && decide (x.toNat ≤ 122)) || (decide (65 ≤ x.toNat) && decide (x.toNat ≤ 90))
def otherB (x : UInt8) : Bool := letterB x || (decide (48 ≤ x.toNat) && decide (x.toNat ≤ 57)) || decide (x.toNat = 95)
theorem otherB_no {x : UInt8} (h : letterB x = false) : otherB x = ((decide (48 ≤ x.toNat) && decide (x.toNat ≤ 57)) || decide (x.toNat = 95)) := by unfold otherB; rw [h, Bool.false_or]
theorem otherB_yes {x : UInt8} (h : letterB x = true) : otherB x = true := by unfold otherB; rw [h]; rfl
def refName : List UInt8 → Bool
  | [] => false
  | x :: r => decide ((x :: r).length ≤ 16) && letterB x && (x :: r).all otherB
theorem all8 {P : UInt8 → Prop} (h : ∀ i : Fin 256, P (UInt8.ofNat i.1)) (x : UInt8) : P x := by
  have := h ⟨x.toNat, x.toNat_lt⟩
  simpa using this
theorem letter_index : ∀ x : UInt8, decide (0 ≤ Lib.indexByte letters x) = letterB x :=
  all8 (P := fun x => decide (0 ≤ Lib.indexByte letters x) = letterB x) (by decide +kernel)
theorem chars_other : ∀ x : UInt8, inS chars x = otherB x := all8 (P := fun x => inS chars x = otherB x) (by decide +kernel)
theorem dropWhile_nil {α : Type} {p : α → Bool} : ∀ {l : List α}, l.dropWhile p = [] ↔ ∀ x ∈ l, p x = true
  | [] => by simp
  | x :: r => by
    rw [List.dropWhile_cons]
    split
    · next h => rw [dropWhile_nil]; simp [h]
    · next h => simp [h]
theorem trim_nil {c l : List UInt8} : trimL c l = [] ↔ ∀ x ∈ l, inS c x = true := by
  unfold trimL
  rw [dropWhile_nil]
  constructor
  · intro h
    by_cases hx : l.reverse.dropWhile (inS c) = []
    · intro x hl; exact dropWhile_nil.1 hx x (by simpa using hl)
    · have h1 := List.head_dropWhile_not (inS c) hx
      have h2 := h _ (List.mem_reverse.2 (List.head_mem hx))
      rw [h2] at h1; cases h1
  · intro h x hx
    have : x ∈ l.reverse := List.dropWhile_sublist _ |>.subset (List.mem_reverse.1 hx)
    exact h x (by simpa using this)
theorem nameF_ref (l : List UInt8) : nameF l = refName l := by
  cases l with
  | nil => rfl
  | cons x r =>
    rw [nameF, refName, letter_index]
    congr 1
    rw [Bool.eq_iff_iff, decide_eq_true_iff, trim_nil, List.all_eq_true]
    simp only [chars_other]
/-! ### Size -/
mutual
def leftT : Tm → Int → Int
  | .mk _ _ _ a, n => if n = 0 then 0 else leftL a (n - 1)
def leftL : List Tm → Int → Int
  | [], n => n
  | x :: r, n => if n > 0 then leftL r (leftT x n) else n
end
theorem leftT_eq (t : Tm) (n : Int) : leftT t n = if n = 0 then 0 else leftL t.a (n - 1) := by cases t; rfl
theorem leftL_min (a : List Tm) (h : ∀ x ∈ a, ∀ n : Int, 0 ≤ n → leftT x n = max (n - x.size) 0) : ∀ n : Int, 0 ≤ n → leftL a n = max (n - Tm.sizeL a) 0 := by
  induction a with
  | nil => intro n h0; rw [leftL, Tm.sizeL_nil]; omega
  | cons x r ih =>
    intro n h0
    rw [leftL, Tm.sizeL_cons]
    split
    · rw [h x (by simp) n h0, ih (fun y hy => h y (by simp [hy])) _ (by omega)]; omega
    · omega
theorem leftT_min (t : Tm) : ∀ n : Int, 0 ≤ n → leftT t n = max (n - t.size) 0 := by
  induction t using Tm.ind' with
  | h t ih =>
    intro n h0
    rw [leftT_eq, Tm.size_eq]
    split
    · omega
    · rw [leftL_min t.a ih _ (by omega)]; omega
/-! ### sorts -/
def srt (t : Tm) : Int := if rightT t 0 then (shpAt t.op).sort else 0
theorem shp_facts {op : Int} (h1 : 1 ≤ op) (h2 : op ≤ 28) : (shpAt op).sort ≠ 0 ∧ (∀ i, i < (shpAt op).a.length → (shpAt op).a.getD i 0 ≠ 0) ∧ ((shpAt op).many = true → (shpAt op).a = [4]) ∧ ((shpAt op).many = false → (shpAt op).a ≠ [-1]) ∧ (shpAt op).number = decide (op = 1 ∨ op = 6) ∧ (shpAt op).name = (decide (op = 2) || decide (op = 7) || decide (op = 14) || decide (op = 15)) := by
  have : ∀ i : Fin 29, 1 ≤ i.1 → ((shpAt (i.1 : Int)).sort ≠ 0 ∧ (∀ k : Fin 3, k.1 < (shpAt (i.1 : Int)).a.length → (shpAt (i.1 : Int)).a.getD k.1 0 ≠ 0) ∧ (shpAt (i.1 : Int)).a.length ≤ 2 ∧ ((shpAt (i.1 : Int)).many = true → (shpAt (i.1 : Int)).a = [4]) ∧ ((shpAt (i.1 : Int)).many = false → (shpAt (i.1 : Int)).a ≠ [-1]) ∧ (shpAt (i.1 : Int)).number = decide ((i.1 : Int) = 1 ∨ (i.1 : Int) = 6) ∧ (shpAt (i.1 : Int)).name = (decide ((i.1 : Int) = 2) || decide ((i.1 : Int) = 7) || decide ((i.1 : Int) = 14) || decide ((i.1 : Int) = 15))) := by decide
  have h3 := this ⟨op.toNat, by omega⟩ (by simp only; omega)
  simp only [Int.toNat_of_nonneg (show 0 ≤ op by omega)] at h3
  obtain ⟨g1, g2, g3, g4, g5, g6, g7⟩ := h3
  exact ⟨g1, fun i hi => g2 ⟨i, by omega⟩ hi, g4, g5, g6, g7⟩
theorem right_srt (t : Tm) {s : Int} (hs : s ≠ 0) : rightT t s = decide (srt t = s) := by
  unfold srt
  cases h : rightT t 0
  · have : rightT t s = false := by
      cases h' : rightT t s
      · rfl
      · rw [right_any h'] at h; cases h
    rw [this]
    simp only [Bool.false_eq_true, if_false]
    exact (decide_eq_false (fun h => hs h.symm)).symm
  · rw [if_pos rfl, Bool.eq_iff_iff, decide_eq_true_iff]
    exact ⟨fun h' => right_sort h' hs, fun h' => right_of h h'⟩
/-- what ref03's shape says a term of an operation has -/
def wantA (op : Int) : List Int := bif (shpAt op).many then [-1] else (shpAt op).a
def wantD (op : Int) : D := shA (wantA op)
end Go.V
