/- The document's names, sizes and sorts, as plain functions; that they are the program's. -/
import Derived.Test.YtokpeggkofjclaaGreatDoorT1
import Derived.Test.YtokpeggkofjclaaGreatDoorT3
set_option linter.unusedVariables false
namespace Go.V
def letterB (x : UInt8) : Bool := (decide (97 ≤ x.toNat) && decide (x.toNat ≤ 122)) || (decide (65 ≤ x.toNat) && decide (x.toNat ≤ 90))
def otherB (x : UInt8) : Bool := letterB x || (decide (48 ≤ x.toNat) && decide (x.toNat ≤ 57)) || decide (x.toNat = 95)
theorem otherB_no {x : UInt8} (h : letterB x = false) : otherB x = ((decide (48 ≤ x.toNat) && decide (x.toNat ≤ 57)) || decide (x.toNat = 95)) := by unfold otherB; rw [h, Bool.false_or]
theorem otherB_yes {x : UInt8} (h : letterB x = true) : otherB x = true := by unfold otherB; rw [h]; rfl
def refName : List UInt8 → Bool
  | [] => false
  | x :: r => decide ((x :: r).length ≤ 16) && letterB x && (x :: r).all otherB
theorem all8 {P : UInt8 → Prop} (h : ∀ i : Fin 256, P (UInt8.ofNat i.1)) (x : UInt8) : P x := by
  have := h ⟨x.toNat, x.toNat_lt⟩
  simpa using this
theorem letter_index : ∀ x : UInt8, decide (0 ≤ Lib.indexByte letters x) = letterB x :=
  all8 (P := fun x => decide (0 ≤ Lib.indexByte letters x) = letterB x) (by decide +kernel)
theorem chars_other : ∀ x : UInt8, inS chars x = otherB x := all8 (P := fun x => inS chars x = otherB x) (by decide +kernel)
theorem dropWhile_nil {α : Type} {p : α → Bool} : ∀ {l : List α}, l.dropWhile p = [] ↔ ∀ x ∈ l, p x = true
  | [] => by simp
  | x :: r => by
    rw [List.dropWhile_cons]
    split
    · next h => rw [dropWhile_nil]; simp [h]
    · next h => simp [h]
theorem trim_nil {c l : List UInt8} : trimL c l = [] ↔ ∀ x ∈ l, inS c x = true := by
  unfold trimL
  rw [dropWhile_nil]
  constructor
  · intro h
    by_cases hx : l.reverse.dropWhile (inS c) = []
    · intro x hl; exact dropWhile_nil.1 hx x (by simpa using hl)
    · have h1 := List.head_dropWhile_not (inS c) hx
      have h2 := h _ (List.mem_reverse.2 (List.head_mem hx))
      rw [h2] at h1; cases h1
  · intro h x hx
    have : x ∈ l.reverse := List.dropWhile_sublist _ |>.subset (List.mem_reverse.1 hx)
    exact h x (by simpa using this)
theorem nameF_ref (l : List UInt8) : nameF l = refName l := by
  cases l with
  | nil => rfl
  | cons x r =>
    rw [nameF, refName, letter_index]
    congr 1
    rw [Bool.eq_iff_iff, decide_eq_true_iff, trim_nil, List.all_eq_true]
    simp only [chars_other]
/-! ### Size -/
mutual
def leftT : Tm → Int → Int
  | .mk _ _ _ a, n => if n = 0 then 0 else leftL a (n - 1)
def leftL : List Tm → Int → Int
  | [], n => n
  | x :: r, n => if n > 0 then leftL r (leftT x n) else n
end
theorem leftT_eq (t : Tm) (n : Int) : leftT t n = if n = 0 then 0 else leftL t.a (n - 1) := by cases t; rfl
theorem leftL_min (a : List Tm) (h : ∀ x ∈ a, ∀ n : Int, 0 ≤ n → leftT x n = max (n - x.size) 0) : ∀ n : Int, 0 ≤ n → leftL a n = max (n - Tm.sizeL a) 0 := by
  induction a with
  | nil => intro n h0; rw [leftL, Tm.sizeL_nil]; omega
  | cons x r ih =>
    intro n h0
    rw [leftL, Tm.sizeL_cons]
    split
    · rw [h x (by simp) n h0, ih (fun y hy => h y (by simp [hy])) _ (by omega)]; omega
    · omega
theorem leftT_min (t : Tm) : ∀ n : Int, 0 ≤ n → leftT t n = max (n - t.size) 0 := by
  induction t using Tm.ind' with
  | h t ih =>
    intro n h0
    rw [leftT_eq, Tm.size_eq]
    split
    · omega
    · rw [leftL_min t.a ih _ (by omega)]; omega
/-! ### sorts -/
def srt (t : Tm) : Int := if rightT t 0 then (shpAt t.op).sort else 0
theorem shp_facts {op : Int} (h1 : 1 ≤ op) (h2 : op ≤ 28) : (shpAt op).sort ≠ 0 ∧ (∀ i, i < (shpAt op).a.length → (shpAt op).a.getD i 0 ≠ 0) ∧ ((shpAt op).many = true → (shpAt op).a = [4]) ∧ ((shpAt op).many = false → (shpAt op).a ≠ [-1]) ∧ (shpAt op).number = decide (op = 1 ∨ op = 6) ∧ (shpAt op).name = (decide (op = 2) || decide (op = 7) || decide (op = 14) || decide (op = 15)) := by
  have : ∀ i : Fin 29, 1 ≤ i.1 → ((shpAt (i.1 : Int)).sort ≠ 0 ∧ (∀ k : Fin 3, k.1 < (shpAt (i.1 : Int)).a.length → (shpAt (i.1 : Int)).a.getD k.1 0 ≠ 0) ∧ (shpAt (i.1 : Int)).a.length ≤ 2 ∧ ((shpAt (i.1 : Int)).many = true → (shpAt (i.1 : Int)).a = [4]) ∧ ((shpAt (i.1 : Int)).many = false → (shpAt (i.1 : Int)).a ≠ [-1]) ∧ (shpAt (i.1 : Int)).number = decide ((i.1 : Int) = 1 ∨ (i.1 : Int) = 6) ∧ (shpAt (i.1 : Int)).name = (decide ((i.1 : Int) = 2) || decide ((i.1 : Int) = 7) || decide ((i.1 : Int) = 14) || decide ((i.1 : Int) = 15))) := by decide
  have h3 := this ⟨op.toNat, by omega⟩ (by simp only; omega)
  simp only [Int.toNat_of_nonneg (show 0 ≤ op by omega)] at h3
  obtain ⟨g1, g2, g3, g4, g5, g6, g7⟩ := h3
  exact ⟨g1, fun i hi => g2 ⟨i, by omega⟩ hi, g4, g5, g6, g7⟩
theorem right_srt (t : Tm) {s : Int} (hs : s ≠ 0) : rightT t s = decide (srt t = s) := by
  unfold srt
  cases h : rightT t 0
  · have : rightT t s = false := by
      cases h' : rightT t s
      · rfl
      · rw [right_any h'] at h; cases h
    rw [this]
    simp only [Bool.false_eq_true, if_false]
    exact (decide_eq_false (fun h => hs h.symm)).symm
  · rw [if_pos rfl, Bool.eq_iff_iff, decide_eq_true_iff]
    exact ⟨fun h' => right_sort h' hs, fun h' => right_of h h'⟩
/-- what ref03's shape says a term of an operation has -/
def wantA (op : Int) : List Int := bif (shpAt op).many then [-1] else (shpAt op).a
def wantD (op : Int) : D := shA (wantA op)
end Go.V
/- Names, in order; those of a term. -/
set_option linter.unusedVariables false
namespace Go.V
open Go
abbrev bl (a b : List UInt8) : Bool := Op.bytesLess a b
theorem bl_cons (a b : UInt8) (l m : List UInt8) : bl (a :: l) (b :: m) = (decide (a < b) || (decide (a = b) && bl l m)) := by
  show Op.bytesLess _ _ = _
  rw [Op.bytesLess]
  by_cases h : a < b
  · simp [h]
  · by_cases h2 : a = b <;> simp [h, h2]
theorem bl_nil (l : List UInt8) : bl l [] = false := by cases l <;> rfl
theorem bl_irrefl : ∀ l, bl l l = false
  | [] => rfl
  | a :: l => by rw [bl_cons, bl_irrefl l]; simp
theorem bl_tri : ∀ {l m : List UInt8}, bl l m = false → bl m l = false → l = m
  | [], [], _, _ => rfl
  | [], _ :: _, h, _ => by cases h
  | _ :: _, [], _, h => by cases h
  | a :: l, b :: m, h, h' => by
    rw [bl_cons] at h h'
    simp only [Bool.or_eq_false_iff, decide_eq_false_iff_not, Bool.and_eq_false_iff] at h h'
    have hab : a = b := by
      have h1 := h.1; have h2 := h'.1
      rw [UInt8.lt_iff_toNat_lt] at h1 h2
      exact UInt8.toNat_inj.1 (by omega)
    subst hab
    rw [bl_tri (l := l) (m := m) (h.2.resolve_left (by simp)) (h'.2.resolve_left (by simp))]
theorem bl_trans : ∀ {l m n : List UInt8}, bl l m = true → bl m n = true → bl l n = true
  | _, _, [], _, h => by rw [bl_nil] at h; cases h
  | _, [], _ :: _, h, _ => by rw [bl_nil] at h; cases h
  | [], _ :: _, _ :: _, _, _ => rfl
  | a :: l, b :: m, c :: n, h, h' => by
    rw [bl_cons] at h h' ⊢
    simp only [Bool.or_eq_true, decide_eq_true_eq, Bool.and_eq_true, UInt8.lt_iff_toNat_lt] at h h' ⊢
    rcases h with h | ⟨rfl, h⟩
    · rcases h' with h' | ⟨rfl, h'⟩
      · exact .inl (by omega)
      · exact .inl h
    · rcases h' with h' | ⟨rfl, h'⟩
      · exact .inl h'
      · exact .inr ⟨rfl, bl_trans h h'⟩
theorem bl_asymm {l m : List UInt8} (h : bl l m = true) : bl m l = false := by
  cases h' : bl m l
  · rfl
  · have := bl_trans h h'; rw [bl_irrefl] at this; cases this
abbrev Nm := List UInt8 × Int
def ltN (x y : Nm) : Bool := bl x.1 y.1 || (decide (x.1 = y.1) && decide (x.2 < y.2))
theorem ltN_iff (x y : Nm) : ltN x y = true ↔ bl x.1 y.1 = true ∨ x.1 = y.1 ∧ x.2 < y.2 := by
  unfold ltN; simp only [Bool.or_eq_true, Bool.and_eq_true, decide_eq_true_eq]
theorem ltN_irrefl (x : Nm) : ltN x x = false := by
  cases h : ltN x x
  · rfl
  · rcases (ltN_iff _ _).1 h with h | ⟨_, h⟩
    · rw [bl_irrefl] at h; cases h
    · omega
theorem ltN_trans {x y z : Nm} (h : ltN x y = true) (h' : ltN y z = true) : ltN x z = true := by
  rw [ltN_iff] at h h' ⊢
  rcases h with h | ⟨e, h⟩
  · rcases h' with h' | ⟨e', h'⟩
    · exact .inl (bl_trans h h')
    · exact .inl (e' ▸ h)
  · rcases h' with h' | ⟨e', h'⟩
    · exact .inl (e ▸ h')
    · exact .inr ⟨e.trans e', by omega⟩
theorem ltN_tri {x y : Nm} (h : ltN x y = false) (h' : ltN y x = false) : x = y := by
  unfold ltN at h h'
  simp only [Bool.or_eq_false_iff, Bool.and_eq_false_iff, decide_eq_false_iff_not] at h h'
  have e := bl_tri h.1 h'.1
  have h2 := h.2.resolve_left (fun hh => hh e)
  have h3 := h'.2.resolve_left (fun hh => hh e.symm)
  exact Prod.ext e (by omega)
theorem ltN_asymm {x y : Nm} (h : ltN x y = true) : ltN y x = false := by
  cases h' : ltN y x
  · rfl
  · have := ltN_trans h h'; rw [ltN_irrefl] at this; cases this
theorem ltN_ntrans {x y z : Nm} (h : ltN x y = false) (h' : ltN y z = false) : ltN x z = false := by
  cases hxz : ltN x z
  · rfl
  · cases hyx : ltN y x
    · have := ltN_tri h hyx; subst this; rw [hxz] at h'; cases h'
    · have := ltN_trans hyx hxz; rw [this] at h'; cases h'
def cmpS (a b : List UInt8) : Int := if bl a b then -1 else if bl b a then 1 else 0
def cmpI (a b : Int) : Int := if a < b then -1 else if a > b then 1 else 0
def cmpN (x y : Nm) : Int := if cmpS x.1 y.1 ≠ 0 then cmpS x.1 y.1 else cmpI x.2 y.2
theorem cmpS_zero (a b : List UInt8) : cmpS a b = 0 ↔ a = b := by
  unfold cmpS
  constructor
  · intro h
    split at h
    · cases h
    · next h1 =>
      split at h
      · cases h
      · next h2 => exact bl_tri (by simpa using h1) (by simpa using h2)
  · rintro rfl; rw [bl_irrefl]; simp
theorem cmpN_lt (x y : Nm) : decide (cmpN x y < 0) = ltN x y := by
  rw [Bool.eq_iff_iff, decide_eq_true_iff, ltN_iff]
  unfold cmpN
  by_cases h : cmpS x.1 y.1 = 0
  · rw [if_neg (by simpa using h)]
    have e := (cmpS_zero _ _).1 h
    rw [e, bl_irrefl]
    unfold cmpI
    simp only [Bool.false_eq_true, false_or, true_and]
    split
    · omega
    · split <;> omega
  · rw [if_pos h]
    have hne : ¬ x.1 = y.1 := fun e => h ((cmpS_zero _ _).2 e)
    unfold cmpS at h ⊢
    split
    · next h1 => simp [h1]
    · next h1 =>
      have h1' : bl x.1 y.1 = false := by simpa using h1
      rw [h1']
      constructor
      · intro h2; split at h2 <;> omega
      · rintro (h2 | ⟨h2, _⟩)
        · cases h2
        · exact absurd h2 hne
theorem cmpN_zero (x y : Nm) : cmpN x y = 0 ↔ x = y := by
  unfold cmpN
  by_cases h : cmpS x.1 y.1 = 0
  · rw [if_neg (by simpa using h)]
    have e := (cmpS_zero _ _).1 h
    unfold cmpI
    rw [Prod.ext_iff]
    constructor
    · intro h2
      refine ⟨e, ?_⟩
      split at h2
      · cases h2
      · split at h2
        · cases h2
        · omega
    · intro h2; rw [if_neg (by omega), if_neg (by omega)]
  · rw [if_pos h]
    exact ⟨fun h2 => absurd h2 h, fun h2 => by rw [h2] at h; exact absurd ((cmpS_zero _ _).2 rfl) h⟩
/-! ### rows of names -/
def sortN (l : List Nm) : List Nm := l.mergeSort fun x y => !ltN y x
def compactN : List Nm → List Nm
  | [] => []
  | [x] => [x]
  | x :: y :: r => if x = y then compactN (y :: r) else x :: compactN (y :: r)
abbrev Rising (l : List Nm) : Prop := l.Pairwise fun x y => ltN x y = true
theorem sortN_sorted (l : List Nm) : (sortN l).Pairwise fun x y => ltN y x = false := by
  have := List.pairwise_mergeSort (le := fun x y : Nm => !ltN y x) (fun a b c h1 h2 => by
    simp only [Bool.not_eq_true'] at h1 h2 ⊢
    exact ltN_ntrans h2 h1) (fun a b => by
    simp only [Bool.or_eq_true, Bool.not_eq_true']
    cases h : ltN b a
    · exact .inl rfl
    · exact .inr (ltN_asymm h)) l
  exact this.imp fun h => by simpa using h
theorem sortN_mem (l : List Nm) (x : Nm) : x ∈ sortN l ↔ x ∈ l := List.mem_mergeSort
theorem compactN_mem : ∀ (l : List Nm) (x : Nm), x ∈ compactN l ↔ x ∈ l
  | [], x => Iff.rfl
  | [y], x => Iff.rfl
  | y :: z :: r, x => by
    rw [compactN]
    split
    · next h => subst h; rw [compactN_mem]; simp
    · rw [List.mem_cons, compactN_mem, List.mem_cons (a := x) (b := y)]
theorem compactN_rising : ∀ {l : List Nm}, (l.Pairwise fun x y => ltN y x = false) → Rising (compactN l)
  | [], _ => .nil
  | [y], _ => List.pairwise_singleton ..
  | y :: z :: r, h => by
    rw [compactN]
    have h2 := (List.pairwise_cons.1 h).2
    split
    · exact compactN_rising h2
    · next hne =>
      refine List.pairwise_cons.2 ⟨fun x hx => ?_, compactN_rising h2⟩
      have hx := (compactN_mem _ _).1 hx
      have hyz := (List.pairwise_cons.1 h).1 z (by simp)
      have hlt : ltN y z = true := by
        cases h3 : ltN y z
        · exact absurd (ltN_tri h3 hyz) hne
        · rfl
      rcases List.mem_cons.1 hx with rfl | hx
      · exact hlt
      · have hzx := (List.pairwise_cons.1 h2).1 x hx
        cases h4 : ltN y x
        · exfalso
          have := ltN_ntrans h4 hzx
          rw [hlt] at this; cases this
        · rfl
/-- rising rows of the same are the same -/
theorem rising_ext : ∀ {l m : List Nm}, Rising l → Rising m → (∀ x, x ∈ l ↔ x ∈ m) → l = m
  | [], [], _, _, _ => rfl
  | [], y :: m, _, _, h => absurd ((h y).2 (by simp)) (by simp)
  | x :: l, [], _, _, h => absurd ((h x).1 (by simp)) (by simp)
  | x :: l, y :: m, h1, h2, h => by
    obtain ⟨a1, a2⟩ := List.pairwise_cons.1 h1
    obtain ⟨b1, b2⟩ := List.pairwise_cons.1 h2
    have hxy : x = y := by
      rcases List.mem_cons.1 ((h x).1 (by simp)) with e | hx
      · exact e
      · rcases List.mem_cons.1 ((h y).2 (by simp)) with e | hy
        · exact e.symm
        · have := ltN_trans (a1 y hy) (b1 x hx)
          rw [ltN_irrefl] at this; cases this
    subst hxy
    rw [rising_ext a2 b2 fun z => ?_]
    constructor
    · intro hz
      rcases List.mem_cons.1 ((h z).1 (by simp [hz])) with rfl | hz'
      · have := a1 z hz; rw [ltN_irrefl] at this; cases this
      · exact hz'
    · intro hz
      rcases List.mem_cons.1 ((h z).2 (by simp [hz])) with rfl | hz'
      · have := b1 z hz; rw [ltN_irrefl] at this; cases this
      · exact hz'
/-! ### those of a term -/
mutual
def collT : Tm → List Nm
  | .mk op nm _ a => (if nm = ⟨#[]⟩ then [] else [(nm.data.toList, op)]) ++ collL a
def collL : List Tm → List Nm
  | [] => []
  | x :: r => collT x ++ collL r
end
theorem collT_eq (t : Tm) : collT t = (if t.nm = ⟨#[]⟩ then [] else [(t.nm.data.toList, t.op)]) ++ collL t.a := by cases t; rw [collT]; rfl
theorem collL_app (a b : List Tm) : collL (a ++ b) = collL a ++ collL b := by
  induction a with
  | nil => rw [collL]; rfl
  | cons x r ih => rw [List.cons_append, collL, collL, ih, List.append_assoc]
/-- the names of a term, rising -/
def namesT (t : Tm) : List Nm := compactN (sortN (collT t))
def NamesF (t : Tm) : List Nm := if (sortF t).2 ≠ 0 then [] else namesT t
theorem namesT_rising (t : Tm) : Rising (namesT t) := compactN_rising (sortN_sorted _)
theorem namesT_mem (t : Tm) (x : Nm) : x ∈ namesT t ↔ x ∈ collT t := by unfold namesT; rw [compactN_mem, sortN_mem]
/-- a name, as it lies in memory while names are gathered; as a term; as it is told -/
def Nm.cs (x : Nm) : List D := [.s (str x.1), .i x.2, .s (str x.1), .i 0, .nil]
def Nm.tm (x : Nm) : Tm := .mk x.2 (str x.1) 0 []
def Nm.cr (x : Nm) : List D := .s (str x.1) :: (Nm.tm x).cs
theorem Nm.cs_len (x : Nm) : (Nm.cs x).length = 5 := rfl
theorem Nm.cs_one (x : Nm) : (Nm.cs x).all D.one = true := rfl
theorem Nm.cr_len (x : Nm) : (Nm.cr x).length = 5 := rfl
theorem Nm.cr_one (x : Nm) : (Nm.cr x).all D.one = true := rfl
theorem Nm.wk (x : Nm) : WkL .nil (.row 4 []) (Nm.cs x) (Nm.cr x) := by
  unfold Nm.cs Nm.cr Nm.tm
  rw [Tm.mk_d, Tm.rows_nil]
  exact .cons (.refl _) (.cons (.refl _) (.cons (.refl _) (.cons (.refl _) (.cons .hit .nil))))
/-! ### steps on texts in order; slices of own rows -/
theorem str_toList (l : List UInt8) : (str l).toList = l := by
  rw [ByteArray.toList_eq]; simp [str]
section
variable {k : D → Prop} {P : Program} {g : FuncId} {args : List D} {L L' : List Bx}
theorem a_lssS {a b : List UInt8} (h : k (.b (bl a b))) : aar .lss (.s (str a)) (.s (str b)) k := by
  show k (.b (Op.bytesLess _ _)); rw [str_toList, str_toList]; exact h
theorem a_gtrS {a b : List UInt8} (h : k (.b (bl b a))) : aar .gtr (.s (str a)) (.s (str b)) k := by
  show k (.b !(Op.bytesLess _ _ || (_ == _)))
  rw [str_toList, str_toList]
  have e : (!(Op.bytesLess a b || (a == b))) = bl b a := by
    cases h1 : bl a b
    · cases h2 : bl b a
      · have := bl_tri h1 h2
        have h1' : Op.bytesLess a b = false := h1
        rw [h1', this]; simp
      · have h1' : Op.bytesLess a b = false := h1
        have hne : ¬ a = b := fun e => by rw [e, bl_irrefl] at h2; cases h2
        rw [h1']; simp [hne]
    · have h1' : Op.bytesLess a b = true := h1
      rw [h1', bl_asymm h1]; rfl
  rw [e]; exact h
theorem a_idxON {sz b o n c : Nat} {ki : IntKind} (i : Nat) (hi : i < n) (h : k (.p b (o + i * sz))) : aidxS sz (.sl b o n c) (.val (.int ki i)) k := V.a_idxO (by omega) (by omega) (by simpa using h)
theorem a_slcOf {sz b o n c : Nat} {ki : IntKind} (i : Nat) (hi : i ≤ n) (hc : i < c) (h : k (.sl b (o + i * sz) (n - i) (c - i))) : aslcL sz (.sl b o n c) (some (.val (.int ki i))) none k := by
  show ∃ _ _, _
  refine ⟨i, n, rfl, ⟨ki, rfl⟩, hi, ?_⟩
  rw [if_neg (by omega)]
  have e : (some (Addr.mk b o none)).map (·.add (i * sz)) = some ⟨b, o + i * sz, none⟩ := by
    simp only [Option.map_some, Addr.add]
    split
    · next h => rw [h]; rfl
    · rfl
  rw [e]; exact h
theorem a_slcOt {sz b o n c : Nat} {ki : IntKind} (i : Nat) (hi : i ≤ c) (h : k (.sl b o i c)) : aslcL sz (.sl b o n c) none (some (.val (.int ki i))) k := by
  show ∃ _ _, _
  refine ⟨0, i, ⟨ki, rfl, hi⟩, rfl, Nat.zero_le _, ?_⟩
  have e : (if c = 0 then some (Addr.mk b o none) else (some (Addr.mk b o none)).map (·.add (0 * sz))) = some ⟨b, o, none⟩ := by
    split
    · rfl
    · simp [Addr.add]
  rw [e]; exact h
theorem AUp.ofGe {a : AE} (h : ASpec P g args L fun a' L2 => Ge a' L2 a L') : AUp P g args L a L' := ASpec.ge h fun a' L2 hg => ⟨a, L', hg, rfl, rfl⟩
theorem ge_gl {a : AE} {L1 : List Bx} (h : Gl a.ds L a.ds L1) : Ge a L a L1 := ⟨by cases a <;> trivial, h⟩
end
end Go.V
/- What the names of a right term are. -/
set_option linter.unusedVariables false
namespace Go.V
theorem Nm.tm_size (x : Nm) : (Nm.tm x).size = 1 := by unfold Nm.tm; rw [Tm.size_mk, Tm.sizeL_nil]
theorem Nm.tm_dep (x : Nm) : (Nm.tm x).dep = 1 := rfl
theorem compactN_len : ∀ l : List Nm, (compactN l).length ≤ l.length
  | [] => Nat.le_refl _
  | [_] => Nat.le_refl _
  | x :: y :: r => by
    rw [compactN]
    have := compactN_len (y :: r)
    split
    · rw [List.length_cons (as := y :: r)]; omega
    · rw [List.length_cons, List.length_cons (as := y :: r)]; omega
theorem sortN_len (l : List Nm) : (sortN l).length = l.length := by unfold sortN; rw [List.length_mergeSort]
theorem coll_len (t : Tm) : (collT t).length ≤ t.size := by
  induction t using Tm.ind' with
  | h t ih =>
    rw [collT_eq, Tm.size_eq, List.length_append]
    have h1 : (if t.nm = ⟨#[]⟩ then [] else [(t.nm.data.toList, t.op)] : List Nm).length ≤ 1 := by split <;> simp
    have h2 : ∀ a : List Tm, (∀ x ∈ a, (collT x).length ≤ x.size) → (collL a).length ≤ Tm.sizeL a := by
      intro a
      induction a with
      | nil => intro _; rw [collL]; simp
      | cons x r ihr =>
        intro h
        rw [collL, List.length_append, Tm.sizeL_cons]
        have := h x (by simp)
        have := ihr fun y hy => h y (by simp [hy])
        omega
    have := h2 t.a ih
    omega
theorem namesF_len (t : Tm) : (NamesF t).length ≤ 2000 := by
  unfold NamesF
  split
  · simp
  next h =>
  obtain ⟨h1, _⟩ := sortF_ok (t := t) (by omega)
  unfold namesT
  have := compactN_len (sortN (collT t))
  have := sortN_len (collT t)
  have := coll_len t
  omega
end Go.V
/- Names among right terms. -/
set_option linter.unusedVariables false
namespace Go.V
open Go
end Go.V
