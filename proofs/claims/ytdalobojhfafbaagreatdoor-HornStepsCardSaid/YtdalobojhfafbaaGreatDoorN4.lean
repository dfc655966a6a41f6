/- The document's names, sizes and sorts, as plain functions; that they are the program's. -/
import Derived.Test.YtdalobojhfafbaaGreatDoorT1
import Derived.Test.YtdalobojhfafbaaGreatDoorT3
set_option linter.unusedVariables false
namespace Go.V
end Go.V
set_option linter.unusedVariables false
namespace Go.V
open Go
abbrev bl (a b : List UInt8) : Bool := Op.bytesLess a b
theorem bl_cons (a b : UInt8) (l m : List UInt8) : bl (a :: l) (b :: m) = (decide (a < b) || (decide (a = b) && bl l m)) := by
  show Op.bytesLess _ _ = _
  rw [Op.bytesLess]
  by_cases h : a < b
  · simp [h]
  · by_cases h2 : a = b <;> simp [h, h2]
theorem bl_nil (l : List UInt8) : bl l [] = false := by cases l <;> rfl
theorem bl_irrefl : ∀ l, bl l l = false
  | [] => rfl
  | a :: l => by rw [bl_cons, bl_irrefl l]; simp
theorem bl_tri : ∀ {l m : List UInt8}, bl l m = false → bl m l = false → l = m
  | [], [], _, _ => rfl
  | [], _ :: _, h, _ => by cases h
  | _ :: _, [], _, h => by cases h
  | a :: l, b :: m, h, h' => by
    rw [bl_cons] at h h'
    simp only [Bool.or_eq_false_iff, decide_eq_false_iff_not, Bool.and_eq_false_iff] at h h'
    have hab : a = b := by
      have h1 := h.1; have h2 := h'.1
      rw [UInt8.lt_iff_toNat_lt] at h1 h2
      exact UInt8.toNat_inj.1 (by omega)
    subst hab
    rw [bl_tri (l := l) (m := m) (h.2.resolve_left (by simp)) (h'.2.resolve_left (by simp))]
theorem bl_trans : ∀ {l m n : List UInt8}, bl l m = true → bl m n = true → bl l n = true
  | _, _, [], _, h => by rw [bl_nil] at h; cases h
  | _, [], _ :: _, h, _ => by rw [bl_nil] at h; cases h
  | [], _ :: _, _ :: _, _, _ => rfl
  | a :: l, b :: m, c :: n, h, h' => by
    rw [bl_cons] at h h' ⊢
    simp only [Bool.or_eq_true, decide_eq_true_eq, Bool.and_eq_true, UInt8.lt_iff_toNat_lt] at h h' ⊢
    rcases h with h | ⟨rfl, h⟩
    · rcases h' with h' | ⟨rfl, h'⟩
      · exact .inl (by omega)
      · exact .inl h
    · rcases h' with h' | ⟨rfl, h'⟩
      · exact .inl h'
      · exact .inr ⟨rfl, bl_trans h h'⟩
theorem bl_asymm {l m : List UInt8} (h : bl l m = true) : bl m l = false := by
  cases h' : bl m l
  · rfl
  · have := bl_trans h h'; rw [bl_irrefl] at this; cases this
abbrev Nm := List UInt8 × Int
def ltN (x y : Nm) : Bool := bl x.1 y.1 || (decide (x.1 = y.1) && decide (x.2 < y.2))
theorem ltN_iff (x y : Nm) : ltN x y = true ↔ bl x.1 y.1 = true ∨ x.1 = y.1 ∧ x.2 < y.2 := by
  unfold ltN; simp only [Bool.or_eq_true, Bool.and_eq_true, decide_eq_true_eq]
theorem ltN_irrefl (x : Nm) : ltN x x = false := by
  cases h : ltN x x
  · rfl
  · rcases (ltN_iff _ _).1 h with h | ⟨_, h⟩
    · rw [bl_irrefl] at h; cases h
    · omega
theorem ltN_trans {x y z : Nm} (h : ltN x y = true) (h' : ltN y z = true) : ltN x z = true := by
  rw [ltN_iff] at h h' ⊢
  rcases h with h | ⟨e, h⟩
  · rcases h' with h' | ⟨e', h'⟩
    · exact .inl (bl_trans h h')
    · exact .inl (e' ▸ h)
  · rcases h' with h' | ⟨e', h'⟩
    · exact .inl (e ▸ h')
    · exact .inr ⟨e.trans e', by omega⟩
theorem ltN_tri {x y : Nm} (h : ltN x y = false) (h' : ltN y x = false) : x = y := by
  unfold ltN at h h'
  simp only [Bool.or_eq_false_iff, Bool.and_eq_false_iff, decide_eq_false_iff_not] at h h'
  have e := bl_tri h.1 h'.1
  have h2 := h.2.resolve_left (fun hh => hh e)
  have h3 := h'.2.resolve_left (fun hh => hh e.symm)
  exact Prod.ext e (by omega)
theorem ltN_ntrans {x y z : Nm} (h : ltN x y = false) (h' : ltN y z = false) : ltN x z = false := by
  cases hxz : ltN x z
  · rfl
  · cases hyx : ltN y x
    · have := ltN_tri h hyx; subst this; rw [hxz] at h'; cases h'
    · have := ltN_trans hyx hxz; rw [this] at h'; cases h'
def cmpS (a b : List UInt8) : Int := if bl a b then -1 else if bl b a then 1 else 0
def cmpI (a b : Int) : Int := if a < b then -1 else if a > b then 1 else 0
def cmpN (x y : Nm) : Int := if cmpS x.1 y.1 ≠ 0 then cmpS x.1 y.1 else cmpI x.2 y.2
theorem cmpS_zero (a b : List UInt8) : cmpS a b = 0 ↔ a = b := by
  unfold cmpS
  constructor
  · intro h
    split at h
    · cases h
    · next h1 =>
      split at h
      · cases h
      · next h2 => exact bl_tri (by simpa using h1) (by simpa using h2)
  · rintro rfl; rw [bl_irrefl]; simp
theorem cmpN_lt (x y : Nm) : decide (cmpN x y < 0) = ltN x y := by
  rw [Bool.eq_iff_iff, decide_eq_true_iff, ltN_iff]
  unfold cmpN
  by_cases h : cmpS x.1 y.1 = 0
  · rw [if_neg (by simpa using h)]
    have e := (cmpS_zero _ _).1 h
    rw [e, bl_irrefl]
    unfold cmpI
    simp only [Bool.false_eq_true, false_or, true_and]
    split
    · omega
    · split <;> omega
  · rw [if_pos h]
    have hne : ¬ x.1 = y.1 := fun e => h ((cmpS_zero _ _).2 e)
    unfold cmpS at h ⊢
    split
    · next h1 => simp [h1]
    · next h1 =>
      have h1' : bl x.1 y.1 = false := by simpa using h1
      rw [h1']
      constructor
      · intro h2; split at h2 <;> omega
      · rintro (h2 | ⟨h2, _⟩)
        · cases h2
        · exact absurd h2 hne
theorem cmpN_zero (x y : Nm) : cmpN x y = 0 ↔ x = y := by
  unfold cmpN
  by_cases h : cmpS x.1 y.1 = 0
  · rw [if_neg (by simpa using h)]
    have e := (cmpS_zero _ _).1 h
    unfold cmpI
    rw [Prod.ext_iff]
    constructor
    · intro h2
      refine ⟨e, ?_⟩
      split at h2
      · cases h2
      · split at h2
        · cases h2
        · omega
    · intro h2; rw [if_neg (by omega), if_neg (by omega)]
  · rw [if_pos h]
    exact ⟨fun h2 => absurd h2 h, fun h2 => by rw [h2] at h; exact absurd ((cmpS_zero _ _).2 rfl) h⟩
def sortN (l : List Nm) : List Nm := l.mergeSort fun x y => !ltN y x
def compactN : List Nm → List Nm
  | [] => []
  | [x] => [x]
  | x :: y :: r => if x = y then compactN (y :: r) else x :: compactN (y :: r)
theorem sortN_mem (l : List Nm) (x : Nm) : x ∈ sortN l ↔ x ∈ l := List.mem_mergeSort
theorem compactN_mem : ∀ (l : List Nm) (x : Nm), x ∈ compactN l ↔ x ∈ l
  | [], x => Iff.rfl
  | [y], x => Iff.rfl
  | y :: z :: r, x => by
    rw [compactN]
    split
    · next h => subst h; rw [compactN_mem]; simp
    · rw [List.mem_cons, compactN_mem, List.mem_cons (a := x) (b := y)]
mutual
def collT : Tm → List Nm
  | .mk op nm _ a => (if nm = ⟨#[]⟩ then [] else [(nm.data.toList, op)]) ++ collL a
def collL : List Tm → List Nm
  | [] => []
  | x :: r => collT x ++ collL r
end
theorem collT_eq (t : Tm) : collT t = (if t.nm = ⟨#[]⟩ then [] else [(t.nm.data.toList, t.op)]) ++ collL t.a := by cases t; rw [collT]; rfl
theorem collL_app (a b : List Tm) : collL (a ++ b) = collL a ++ collL b := by
  induction a with
  | nil => rw [collL]; rfl
  | cons x r ih => rw [List.cons_append, collL, collL, ih, List.append_assoc]
theorem collL_mem {a : List Tm} {x : Nm} : x ∈ collL a ↔ ∃ t ∈ a, x ∈ collT t := by
  induction a with
  | nil => rw [collL]; simp
  | cons y r ih => rw [collL, List.mem_append, ih]; simp
def namesT (t : Tm) : List Nm := compactN (sortN (collT t))
def NamesF (t : Tm) : List Nm := if (sortF t).2 ≠ 0 then [] else namesT t
theorem namesT_mem (t : Tm) (x : Nm) : x ∈ namesT t ↔ x ∈ collT t := by unfold namesT; rw [compactN_mem, sortN_mem]
def Nm.cs (x : Nm) : List D := [.s (str x.1), .i x.2, .s (str x.1), .i 0, .nil]
def Nm.tm (x : Nm) : Tm := .mk x.2 (str x.1) 0 []
def Nm.cr (x : Nm) : List D := .s (str x.1) :: (Nm.tm x).cs
theorem Nm.cs_len (x : Nm) : (Nm.cs x).length = 5 := rfl
theorem Nm.cs_one (x : Nm) : (Nm.cs x).all D.one = true := rfl
theorem Nm.cr_len (x : Nm) : (Nm.cr x).length = 5 := rfl
theorem Nm.cr_one (x : Nm) : (Nm.cr x).all D.one = true := rfl
theorem Nm.wk (x : Nm) : WkL .nil (.row 4 []) (Nm.cs x) (Nm.cr x) := by
  unfold Nm.cs Nm.cr Nm.tm
  rw [Tm.mk_d, Tm.rows_nil]
  exact .cons (.refl _) (.cons (.refl _) (.cons (.refl _) (.cons (.refl _) (.cons .hit .nil))))
theorem str_toList (l : List UInt8) : (str l).toList = l := by
  rw [ByteArray.toList_eq]; simp [str]
section
variable {k : D → Prop} {P : Program} {g : FuncId} {args : List D} {L L' : List Bx}
theorem a_lssS {a b : List UInt8} (h : k (.b (bl a b))) : aar .lss (.s (str a)) (.s (str b)) k := by
  show k (.b (Op.bytesLess _ _)); rw [str_toList, str_toList]; exact h
theorem a_gtrS {a b : List UInt8} (h : k (.b (bl b a))) : aar .gtr (.s (str a)) (.s (str b)) k := by
  show k (.b !(Op.bytesLess _ _ || (_ == _)))
  rw [str_toList, str_toList]
  have e : (!(Op.bytesLess a b || (a == b))) = bl b a := by
    cases h1 : bl a b
    · cases h2 : bl b a
      · have := bl_tri h1 h2
        have h1' : Op.bytesLess a b = false := h1
        rw [h1', this]; simp
      · have h1' : Op.bytesLess a b = false := h1
        have hne : ¬ a = b := fun e => by rw [e, bl_irrefl] at h2; cases h2
        rw [h1']; simp [hne]
    · have h1' : Op.bytesLess a b = true := h1
      rw [h1', bl_asymm h1]; rfl
  rw [e]; exact h
theorem a_idxON {sz b o n c : Nat} {ki : IntKind} (i : Nat) (hi : i < n) (h : k (.p b (o + i * sz))) : aidxS sz (.sl b o n c) (.val (.int ki i)) k := V.a_idxO (by omega) (by omega) (by simpa using h)
theorem a_slcOf {sz b o n c : Nat} {ki : IntKind} (i : Nat) (hi : i ≤ n) (hc : i < c) (h : k (.sl b (o + i * sz) (n - i) (c - i))) : aslcL sz (.sl b o n c) (some (.val (.int ki i))) none k := by
  show ∃ _ _, _
  refine ⟨i, n, rfl, ⟨ki, rfl⟩, hi, ?_⟩
  rw [if_neg (by omega)]
  have e : (some (Addr.mk b o none)).map (·.add (i * sz)) = some ⟨b, o + i * sz, none⟩ := by
    simp only [Option.map_some, Addr.add]
    split
    · next h => rw [h]; rfl
    · rfl
  rw [e]; exact h
theorem a_slcOt {sz b o n c : Nat} {ki : IntKind} (i : Nat) (hi : i ≤ c) (h : k (.sl b o i c)) : aslcL sz (.sl b o n c) none (some (.val (.int ki i))) k := by
  show ∃ _ _, _
  refine ⟨0, i, ⟨ki, rfl, hi⟩, rfl, Nat.zero_le _, ?_⟩
  have e : (if c = 0 then some (Addr.mk b o none) else (some (Addr.mk b o none)).map (·.add (0 * sz))) = some ⟨b, o, none⟩ := by
    split
    · rfl
    · simp [Addr.add]
  rw [e]; exact h
theorem AUp.ofGe {a : AE} (h : ASpec P g args L fun a' L2 => Ge a' L2 a L') : AUp P g args L a L' := ASpec.ge h fun a' L2 hg => ⟨a, L', hg, rfl, rfl⟩
theorem ge_gl {a : AE} {L1 : List Bx} (h : Gl a.ds L a.ds L1) : Ge a L a L1 := ⟨by cases a <;> trivial, h⟩
end
end Go.V
set_option linter.unusedVariables false
namespace Go.V
theorem op_cases {P : Int → Prop} {op : Int} (h1 : 1 ≤ op) (h2 : op ≤ 28) (h : ∀ i : Fin 29, 1 ≤ i.1 → P (i.1 : Int)) : P op := by
  have := h ⟨op.toNat, by omega⟩ (by simp only; omega)
  simpa only [Int.toNat_of_nonneg (show 0 ≤ op by omega)] using this
theorem shp_name {op : Int} (h1 : 1 ≤ op) (h2 : op ≤ 28) : (shpAt op).name = true → (shpAt op).number = false ∧ (shpAt op).a = [] ∧ (shpAt op).many = false := by
  refine op_cases (P := fun op => (shpAt op).name = true → (shpAt op).number = false ∧ (shpAt op).a = [] ∧ (shpAt op).many = false) h1 h2 ?_
  decide
theorem Nm.tm_size (x : Nm) : (Nm.tm x).size = 1 := by unfold Nm.tm; rw [Tm.size_mk, Tm.sizeL_nil]
theorem Nm.tm_dep (x : Nm) : (Nm.tm x).dep = 1 := rfl
theorem coll_right (t : Tm) : ∀ {m : Int}, rightT t m = true → ∀ x ∈ collT t, nameF x.1 = true ∧ rightT (Nm.tm x) 0 = true := by
  induction t using Tm.ind' with
  | h t ih =>
    intro m h x hx
    have hr := (right_iff _ _).1 h
    rw [collT_eq, List.mem_append] at hx
    rcases hx with hx | hx
    · split at hx
      · cases hx
      next hne =>
      rw [List.mem_singleton] at hx
      subst hx
      have hn : (shpAt t.op).name = true := by
        cases e : (shpAt t.op).name
        · exact absurd (hr.nm2 e) hne
        · rfl
      obtain ⟨e1, e2, e3⟩ := shp_name hr.op1 hr.op2 hn
      refine ⟨hr.nm1 hn, (right_iff _ _).2 ⟨hr.op1, hr.op2, .inl rfl, fun _ => ?_, fun h => ?_, fun _ => rfl, fun _ => ?_, fun i hi => ?_⟩⟩
      · exact hr.nm1 hn
      · rw [show (Nm.tm (t.nm.data.toList, t.op)).op = t.op from rfl, hn] at h; cases h
      · show 0 = (shpAt t.op).a.length
        rw [e2]; rfl
      · exact absurd hi (Nat.not_lt_zero _)
    · obtain ⟨u, hu, hx⟩ := collL_mem.1 hx
      obtain ⟨i, hi, rfl⟩ := List.getElem_of_mem hu
      exact ih _ hu (hr.kids i hi) x hx
theorem compactN_len : ∀ l : List Nm, (compactN l).length ≤ l.length
  | [] => Nat.le_refl _
  | [_] => Nat.le_refl _
  | x :: y :: r => by
    rw [compactN]
    have := compactN_len (y :: r)
    split
    · rw [List.length_cons (as := y :: r)]; omega
    · rw [List.length_cons, List.length_cons (as := y :: r)]; omega
theorem sortN_len (l : List Nm) : (sortN l).length = l.length := by unfold sortN; rw [List.length_mergeSort]
theorem coll_len (t : Tm) : (collT t).length ≤ t.size := by
  induction t using Tm.ind' with
  | h t ih =>
    rw [collT_eq, Tm.size_eq, List.length_append]
    have h1 : (if t.nm = ⟨#[]⟩ then [] else [(t.nm.data.toList, t.op)] : List Nm).length ≤ 1 := by split <;> simp
    have h2 : ∀ a : List Tm, (∀ x ∈ a, (collT x).length ≤ x.size) → (collL a).length ≤ Tm.sizeL a := by
      intro a
      induction a with
      | nil => intro _; rw [collL]; simp
      | cons x r ihr =>
        intro h
        rw [collL, List.length_append, Tm.sizeL_cons]
        have := h x (by simp)
        have := ihr fun y hy => h y (by simp [hy])
        omega
    have := h2 t.a ih
    omega
theorem namesF_len (t : Tm) : (NamesF t).length ≤ 2000 := by
  unfold NamesF
  split
  · simp
  next h =>
  obtain ⟨h1, _⟩ := sortF_ok (t := t) (by omega)
  unfold namesT
  have := compactN_len (sortN (collT t))
  have := sortN_len (collT t)
  have := coll_len t
  omega
theorem namesF_right (t : Tm) {x : Nm} (hx : x ∈ NamesF t) : nameF x.1 = true ∧ (sortF (Nm.tm x)).2 = 0 := by
  unfold NamesF at hx
  split at hx
  · cases hx
  next h =>
  obtain ⟨_, _, h1, _⟩ := sortF_ok (t := t) (by omega)
  obtain ⟨h2, h3⟩ := coll_right t h1 x ((namesT_mem t x).1 hx)
  refine ⟨h2, ?_⟩
  rw [sortF_eq, if_neg (by rw [Nm.tm_size, Nm.tm_dep]; omega), if_pos h3]
end Go.V
set_option linter.unusedVariables false
namespace Go.V
open Go
theorem named_iff {t : Tm} {s : Int} (h : rightT t s = true) : (shpAt t.op).name = true ↔ t.op = 2 ∨ t.op = 7 ∨ t.op = 14 ∨ t.op = 15 := by
  have r := (right_iff t s).1 h
  have : ∀ k : Fin 29, (shpAt (k.1 : Int)).name = true ↔ (k.1 : Int) = 2 ∨ (k.1 : Int) = 7 ∨ (k.1 : Int) = 14 ∨ (k.1 : Int) = 15 := by decide
  have h := this ⟨t.op.toNat, by have := r.op1; have := r.op2; omega⟩
  have h0 := r.op1
  simp only [Int.toNat_of_nonneg (show 0 ≤ t.op by omega)] at h
  exact h
theorem right_named {t : Tm} {s : Int} (h : rightT t s = true) (ho : t.op = 2 ∨ t.op = 7 ∨ t.op = 14 ∨ t.op = 15) : t.a = [] ∧ collT t = [(t.nm.data.toList, t.op)] := by
  have r := (right_iff t s).1 h
  have hnm := (named_iff h).2 ho
  have ha : t.a = [] := by
    have hlen := r.len
    rcases ho with e | e | e | e <;> (rw [e] at hlen; exact List.length_eq_zero_iff.1 (hlen rfl))
  have hnn : t.nm ≠ ⟨#[]⟩ := fun e => by
    have := r.nm1 hnm
    rw [e] at this
    cases this
  exact ⟨ha, by rw [collT_eq, if_neg hnn, ha, collL]; rfl⟩
theorem right_bare' {t : Tm} {s : Int} (h : rightT t s = true) (ho : ¬ (t.op = 2 ∨ t.op = 7 ∨ t.op = 14 ∨ t.op = 15)) : collT t = collL t.a := by
  have r := (right_iff t s).1 h
  have hnm : (shpAt t.op).name = false := by
    cases hh : (shpAt t.op).name
    · rfl
    · exact absurd ((named_iff h).1 hh) ho
  rw [collT_eq, if_pos (r.nm2 hnm)]; rfl
end Go.V
