/- Sizes and depths of terms, as plain numbers. -/
import Derived.Test.YtdalobojhfafbaaGreatDoorM1
set_option linter.unusedVariables false
namespace Go.V
mutual
def Tm.size : Tm → Nat
  | .mk _ _ _ a => Tm.sizeL a + 1
def Tm.sizeL : List Tm → Nat
  | [] => 0
  | x :: r => Tm.size x + Tm.sizeL r
end
mutual
def Tm.dep : Tm → Nat
  | .mk _ _ _ a => Tm.depL a + 1
def Tm.depL : List Tm → Nat
  | [] => 0
  | x :: r => max (Tm.dep x) (Tm.depL r)
end
theorem Tm.size_eq (t : Tm) : t.size = Tm.sizeL t.a + 1 := by cases t; rw [Tm.size]; rfl
theorem Tm.dep_eq (t : Tm) : t.dep = Tm.depL t.a + 1 := by cases t; rw [Tm.dep]; rfl
theorem Tm.size_mk (o : Int) (s : ByteArray) (n : Int) (a : List Tm) : (Tm.mk o s n a).size = Tm.sizeL a + 1 := by rw [Tm.size]
theorem Tm.dep_mk (o : Int) (s : ByteArray) (n : Int) (a : List Tm) : (Tm.mk o s n a).dep = Tm.depL a + 1 := by rw [Tm.dep]
theorem Tm.size_pos (t : Tm) : 1 ≤ t.size := by rw [Tm.size_eq]; omega
theorem Tm.sizeL_nil : Tm.sizeL [] = 0 := by rw [Tm.sizeL]
theorem Tm.sizeL_cons (x : Tm) (r : List Tm) : Tm.sizeL (x :: r) = x.size + Tm.sizeL r := by rw [Tm.sizeL]
theorem Tm.depL_nil : Tm.depL [] = 0 := by rw [Tm.depL]
theorem Tm.depL_cons (x : Tm) (r : List Tm) : Tm.depL (x :: r) = max x.dep (Tm.depL r) := by rw [Tm.depL]
theorem Tm.size_mem : ∀ {a : List Tm} {x : Tm}, x ∈ a → x.size ≤ Tm.sizeL a
  | y :: r, x, h => by
    rw [Tm.sizeL_cons]
    rcases List.mem_cons.1 h with rfl | h
    · omega
    · have := Tm.size_mem h; omega
theorem Tm.dep_mem : ∀ {a : List Tm} {x : Tm}, x ∈ a → x.dep ≤ Tm.depL a
  | y :: r, x, h => by
    rw [Tm.depL_cons]
    rcases List.mem_cons.1 h with rfl | h
    · omega
    · have := Tm.dep_mem h; omega
theorem Tm.len_size : ∀ a : List Tm, a.length ≤ Tm.sizeL a
  | [] => Nat.zero_le _
  | x :: r => by rw [Tm.sizeL_cons, List.length_cons]; have := Tm.len_size r; have := x.size_pos; omega

def OfSays (sz dp : Nat) (d s m : Int) (p : Int × Int) : Prop :=
  (s + sz ≤ 2000 ∧ d + dp ≤ 100 → p = (s + sz, max m (d + dp))) ∧ (¬ (s + sz ≤ 2000 ∧ d + dp ≤ 100) → p.1 > 2000 ∨ p.2 > 100) ∧ m ≤ p.2 ∧ s ≤ p.1
theorem ofL_says (a : List Tm) (h : ∀ x ∈ a, ∀ d s m : Int, 1 ≤ d → 0 ≤ s → s ≤ 2000 → OfSays x.size x.dep (d - 1) s m (ofT x d s m)) :
    ∀ d s m : Int, 1 ≤ d → 0 ≤ s → s ≤ 2001 → d ≤ m → OfSays (Tm.sizeL a) (Tm.depL a) d s m (ofL a d s m) := by
  induction a with
  | nil =>
    intro d s m h1 h2 h3 h4
    rw [ofL, Tm.sizeL_nil, Tm.depL_nil]
    refine ⟨fun _ => ?_, fun _ => ?_, Int.le_refl _, Int.le_refl _⟩
    · rw [Prod.mk.injEq]; omega
    · simp only; omega
  | cons x r ih =>
    intro d s m h1 h2 h3 h4
    rw [ofL, Tm.sizeL_cons, Tm.depL_cons]
    have hx := x.size_pos
    split
    · next hc =>
      refine ⟨fun _ => by omega, fun _ => ?_, Int.le_refl _, Int.le_refl _⟩
      simp only; omega
    · obtain ⟨p1, p2, p3, p4⟩ := h x (by simp) (d + 1) s m (by omega) h2 (by omega)
      have hb := ofT_bound x (d + 1) s m h2 (by omega)
      obtain ⟨q1, q2, q3, q4⟩ := ih (fun y hy => h y (by simp [hy])) d (ofT x (d + 1) s m).1 (ofT x (d + 1) s m).2 h1 hb.1 hb.2 (by omega)
      refine ⟨fun hc => ?_, fun hc => ?_, by omega, by omega⟩
      · have e := p1 (by omega)
        have e1 := congrArg Prod.fst e
        have e2 := congrArg Prod.snd e
        simp only at e1 e2
        rw [q1 (by omega), Prod.mk.injEq]
        omega
      · by_cases hd : s + x.size ≤ 2000 ∧ d + 1 - 1 + x.dep ≤ 100
        · have e := p1 hd
          have e1 := congrArg Prod.fst e
          have e2 := congrArg Prod.snd e
          simp only at e1 e2
          exact q2 (by omega)
        · have := p2 hd
          omega
theorem ofT_says (t : Tm) : ∀ d s m : Int, 1 ≤ d → 0 ≤ s → s ≤ 2000 → OfSays t.size t.dep (d - 1) s m (ofT t d s m) := by
  induction t using Tm.ind' with
  | h t ih =>
    intro d s m h1 h2 h3
    rw [ofT_eq, Tm.size_eq, Tm.dep_eq]
    obtain ⟨p1, p2, p3, p4⟩ := ofL_says t.a ih d (s + 1) (max m d) h1 (by omega) (by omega) (by omega)
    refine ⟨fun hc => ?_, fun hc => p2 (by omega), by omega, by omega⟩
    rw [p1 (by omega), Prod.mk.injEq]
    omega
theorem sortF_eq (t : Tm) : sortF t = if t.size > 2000 ∨ t.dep > 100 then (0, 7) else if rightT t 0 then ((shpAt t.op).sort, 0) else (0, 3) := by
  obtain ⟨p1, p2, _⟩ := ofT_says t 1 0 0 (by omega) (by omega) (by omega)
  unfold sortF
  have : ((ofT t 1 0 0).1 > 2000 ∨ (ofT t 1 0 0).2 > 100) ↔ (t.size > 2000 ∨ t.dep > 100) := by
    constructor
    · intro h
      by_cases hc : (0 : Int) + t.size ≤ 2000 ∧ (1 : Int) - 1 + t.dep ≤ 100
      · have e := p1 hc
        have e1 := congrArg Prod.fst e
        have e2 := congrArg Prod.snd e
        simp only at e1 e2
        omega
      · omega
    · intro h; exact p2 (by omega)
  simp only [this]
end Go.V
set_option linter.unusedVariables false
namespace Go.V
def Tm.at (t : Tm) (i : Nat) : Tm := t.a.getD i t
def mk (op : Int) (a : List Tm) : Tm := .mk op ⟨#[]⟩ 0 a
def leT (t u : Tm) : Tm := .mk 22 ⟨#[]⟩ 0 [t, u]
def emptyT (t : Tm) : Tm := leT (.mk 3 ⟨#[]⟩ 0 [t]) (.mk 1 ⟨#[]⟩ 0 [])
def plainT (t : Tm) : Tm :=
  if t.op = 21 then mk 20 [mk 18 [t.at 0], t.at 1]
  else if t.op = 23 then mk 18 [leT (t.at 1) (t.at 0)]
  else if t.op = 24 then mk 19 [leT (t.at 0) (t.at 1), leT (t.at 1) (t.at 0)]
  else if t.op = 26 then emptyT (mk 13 [t.at 0, t.at 1])
  else if t.op = 25 then emptyT (mk 13 [mk 10 [t.at 0], t.at 1])
  else if t.op = 28 then emptyT (mk 13 [mk 10 [t.at 0], mk 10 [t.at 1]])
  else if t.op = 27 then mk 19 [emptyT (mk 13 [t.at 0, t.at 1]), emptyT (mk 13 [t.at 1, t.at 0])]
  else t
def turnedF (o : Int) : Int := if o = 19 then 20 else if o = 20 then 19 else if o = 16 then 17 else if o = 17 then 16 else o
mutual
def normT : Tm → Bool → Tm
  | .mk op nm n a, no =>
    if op = 18 then (normL a (!no)).getD 0 (.mk op nm n a)
    else if op = 19 ∨ op = 20 then mk (if no then turnedF op else op) (normL a no)
    else if op = 16 ∨ op = 17 then mk (if no then turnedF op else op) (normL a no)
    else if op = 21 then mk (if no then 19 else 20) ((normL a (!no)).take 1 ++ (normL a no).drop 1)
    else if op = 23 then (if no then leT ((Tm.mk op nm n a).at 1) ((Tm.mk op nm n a).at 0) else mk 18 [leT ((Tm.mk op nm n a).at 1) ((Tm.mk op nm n a).at 0)])
    else if op = 24 then (if no then mk 20 [mk 18 [leT ((Tm.mk op nm n a).at 0) ((Tm.mk op nm n a).at 1)], mk 18 [leT ((Tm.mk op nm n a).at 1) ((Tm.mk op nm n a).at 0)]] else plainT (.mk op nm n a))
    else if op = 27 then (if no then mk 20 ((plainT (.mk op nm n a)).a.map fun x => mk 18 [x]) else plainT (.mk op nm n a))
    else if no then mk 18 [plainT (.mk op nm n a)] else plainT (.mk op nm n a)
def normL : List Tm → Bool → List Tm
  | [], _ => []
  | x :: r, no => normT x no :: normL r no
end
theorem len1 {a : List Tm} (h : a.length = 1) : ∃ x, a = [x] := by
  match a, h with
  | [x], _ => exact ⟨x, rfl⟩
theorem len2 {a : List Tm} (h : a.length = 2) : ∃ x y, a = [x, y] := by
  match a, h with
  | [x, y], _ => exact ⟨x, y, rfl⟩
end Go.V
set_option linter.unusedVariables false
namespace Go.V
structure RightSays (t : Tm) (m : Int) : Prop where
  op1 : 1 ≤ t.op
  op2 : t.op ≤ 28
  sort : m = 0 ∨ (shpAt t.op).sort = m
  nm1 : (shpAt t.op).name = true → nameF t.nm.data.toList = true
  nm2 : (shpAt t.op).name = false → t.nm = ⟨#[]⟩
  num : (shpAt t.op).number = false → t.n = 0
  len : (shpAt t.op).many = false → t.a.length = (shpAt t.op).a.length
  kids : ∀ (i : Nat) (h : i < t.a.length), rightT t.a[i] ((shpAt t.op).a.getD (bif (shpAt t.op).many then 0 else i) 0) = true
theorem rightL_iff (S : Shp) : ∀ (a : List Tm) (k : Nat), rightL S a k = true ↔ ∀ (i : Nat) (h : i < a.length), rightT a[i] (S.a.getD (bif S.many then 0 else k + i) 0) = true
  | [], k => by rw [rightL]; exact ⟨fun _ i h => absurd h (Nat.not_lt_zero _), fun _ => rfl⟩
  | x :: r, k => by
    rw [rightL, Bool.and_eq_true, rightL_iff S r (k + 1)]
    constructor
    · rintro ⟨h1, h2⟩ i h
      cases i with
      | zero => exact h1
      | succ i =>
        have := h2 i (by simpa using h)
        rw [show k + (i + 1) = k + 1 + i by omega]
        exact this
    · intro h
      refine ⟨h 0 (by simp), fun i hi => ?_⟩
      have := h (i + 1) (by simpa using hi)
      rw [show k + (i + 1) = k + 1 + i by omega] at this
      exact this
theorem right_iff (t : Tm) (m : Int) : rightT t m = true ↔ RightSays t m := by
  rw [rightT_eq]
  simp only [Bool.and_eq_true, decide_eq_true_eq, Bool.not_eq_true', rightL_iff, Nat.zero_add]
  constructor
  · rintro ⟨⟨⟨h1, h2⟩, h3⟩, h4⟩
    unfold badHead at h3
    simp only [Bool.or_eq_false_iff, Bool.and_eq_false_iff, decide_eq_false_iff_not, Bool.not_eq_false', Decidable.not_not] at h3
    obtain ⟨⟨⟨⟨s1, s2⟩, s3⟩, s4⟩, s5⟩ := h3
    refine ⟨h1, h2, s1, fun h => ?_, fun h => ?_, fun h => ?_, fun h => ?_, h4⟩
    · rcases s2 with s2 | s2
      · rw [h] at s2; cases s2
      · exact s2
    · rcases s3 with s3 | s3
      · rw [h] at s3; cases s3
      · exact s3
    · rcases s4 with s4 | s4
      · rw [h] at s4; cases s4
      · exact s4
    · rcases s5 with s5 | s5
      · rw [h] at s5; cases s5
      · omega
  · rintro ⟨h1, h2, s1, s2, s3, s4, s5, h4⟩
    refine ⟨⟨⟨h1, h2⟩, ?_⟩, h4⟩
    unfold badHead
    simp only [Bool.or_eq_false_iff, Bool.and_eq_false_iff, decide_eq_false_iff_not, Bool.not_eq_false', Decidable.not_not]
    refine ⟨⟨⟨⟨s1, ?_⟩, ?_⟩, ?_⟩, ?_⟩
    · cases h : (shpAt t.op).name
      · exact .inl rfl
      · exact .inr (s2 h)
    · cases h : (shpAt t.op).name
      · exact .inr (s3 h)
      · exact .inl rfl
    · cases h : (shpAt t.op).number
      · exact .inr (s4 h)
      · exact .inl rfl
    · cases h : (shpAt t.op).many
      · exact .inr (by have := s5 h; omega)
      · exact .inl rfl
theorem right_any {t : Tm} {m : Int} (h : rightT t m = true) : rightT t 0 = true := by
  rw [right_iff] at h ⊢
  exact { h with sort := .inl rfl }
theorem right_sort {t : Tm} {m : Int} (h : rightT t m = true) (hm : m ≠ 0) : (shpAt t.op).sort = m := by
  rw [right_iff] at h
  exact h.sort.resolve_left hm
theorem right_of {t : Tm} {m : Int} (h : rightT t 0 = true) (hm : (shpAt t.op).sort = m) : rightT t m = true := by
  rw [right_iff] at h ⊢
  exact { h with sort := .inr hm }
theorem right2 {op : Int} {nm : ByteArray} {n : Int} {a : List Tm} {m s1 s2 : Int} (h : rightT (.mk op nm n a) m = true) (hs : (shpAt op).a = [s1, s2]) (hm : (shpAt op).many = false) :
    ∃ x y, a = [x, y] ∧ rightT x s1 = true ∧ rightT y s2 = true := by
  rw [right_iff] at h
  have hl := h.len hm
  have hk := h.kids
  simp only [Tm.op, Tm.a] at hl hk
  rw [hs] at hl hk
  rw [hm] at hk
  obtain ⟨x, y, rfl⟩ := len2 hl
  exact ⟨x, y, rfl, hk 0 (by simp), hk 1 (by simp)⟩
theorem right1 {op : Int} {nm : ByteArray} {n : Int} {a : List Tm} {m s1 : Int} (h : rightT (.mk op nm n a) m = true) (hs : (shpAt op).a = [s1]) (hm : (shpAt op).many = false) :
    ∃ x, a = [x] ∧ rightT x s1 = true := by
  rw [right_iff] at h
  have hl := h.len hm
  have hk := h.kids
  simp only [Tm.op, Tm.a] at hl hk
  rw [hs] at hl hk
  rw [hm] at hk
  obtain ⟨x, rfl⟩ := len1 hl
  exact ⟨x, rfl, hk 0 (by simp)⟩
theorem right0 {op : Int} {nm : ByteArray} {n : Int} {a : List Tm} {m : Int} (h : rightT (.mk op nm n a) m = true) (hs : (shpAt op).a = []) (hm : (shpAt op).many = false) : a = [] := by
  rw [right_iff] at h
  have hl := h.len hm
  simp only [Tm.op, Tm.a] at hl
  rw [hs] at hl
  exact List.eq_nil_of_length_eq_zero hl
theorem sort4 {op : Int} (h1 : 1 ≤ op) (h2 : op ≤ 28) : (shpAt op).sort = 4 ↔ 15 ≤ op := by
  have : ∀ i : Fin 29, 1 ≤ i.1 → ((shpAt (i.1 : Int)).sort = 4 ↔ (15 : Int) ≤ i.1) := by decide
  have h3 := this ⟨op.toNat, by omega⟩ (by simp only; omega)
  simp only [Int.toNat_of_nonneg (show 0 ≤ op by omega)] at h3
  exact h3
theorem right4 {t : Tm} (h : rightT t 4 = true) : 15 ≤ t.op ∧ t.op ≤ 28 := by
  have hs := right_sort h (by decide)
  rw [right_iff] at h
  exact ⟨(sort4 h.op1 h.op2).1 hs, h.op2⟩
def fewN (a : List Tm) : Bool := a.head?.any fun x => decide (x.op = 15) || decide (x.op = 22)
mutual
def fewT : Tm → Bool
  | .mk op _ _ a => if op = 19 ∨ op = 20 then fewL a else if op = 18 then fewN a else decide (op = 16) || decide (op = 17) || decide (op = 15) || decide (op = 22)
def fewL : List Tm → Bool
  | [] => true
  | x :: r => fewT x && fewL r
end
inductive Flat (x y : Tm) : Tm → Tm → Prop
  | le (u : Tm) : u.op = 22 → u.dep ≤ max x.dep y.dep + 4 → (∀ no, normT u no = if no then mk 18 [u] else u) → Flat x y u (mk 18 [u])
  | not (u : Tm) : u.op = 22 → u.dep ≤ max x.dep y.dep + 4 → (∀ no, normT u no = if no then mk 18 [u] else u) → Flat x y (mk 18 [u]) u
  | two (u v : Tm) : u.op = 22 → v.op = 22 → u.dep ≤ max x.dep y.dep + 3 → v.dep ≤ max x.dep y.dep + 3 → (∀ no, normT u no = if no then mk 18 [u] else u) → (∀ no, normT v no = if no then mk 18 [v] else v) → Flat x y (mk 19 [u, v]) (mk 20 [mk 18 [u], mk 18 [v]])
structure FlatSays (x y p q : Tm) : Prop where
  fp : fewT p = true
  fq : fewT q = true
  pt : normT p true = q
  qt : normT q true = p
  pf : normT p false = p
  qf : normT q false = q
  dp : p.dep ≤ max x.dep y.dep + 5
  dq : q.dep ≤ max x.dep y.dep + 5
end Go.V
set_option linter.unusedVariables false
namespace Go.V
open Go
section
variable {P : Program} {g : FuncId} {args : List D} {L L' : List Bx} {a : AE}
theorem AFn.ofGe (h : ASpec P g args [] fun a' L' => Ge a' L' a []) : AFn P g args [] a := ASpec.ge h fun a' L' hg => ⟨a, [], hg, rfl, rfl⟩
theorem ge_drop (a : AE) (L : List Bx) : Ge a L a [] := ⟨by cases a <;> trivial, Gl.drop (List.nil_sublist _)⟩
theorem ge_of {a b : AE} (h : a = b) : Ge a L b [] := by subst h; exact ge_drop a L
end
def bvT (b c : Nat) : List Tm → D
  | [] => .nil
  | x :: l => .sl b 0 (l.length + 1) c
def bbT (e b c : Nat) : List Tm → List Bx
  | [] => []
  | x :: l => [⟨b, (Tm.rows (x :: l)).flatten, .row e 4 c⟩]
section
variable {L : List Bx} {kl : D → List Bx → Prop} {e b c : Nat}
theorem rows1_src {x : Tm} : asrc 4 (.row 4 (Tm.rows [x])) L 1 x.cs := ⟨rfl, by rw [Tm.rows_len]; rfl, by rw [Tm.rows_cons, Tm.rows_nil]; simp⟩
theorem a_appT0 {x : Tm} (h : ∀ b c, kl (bvT b c [x]) (⟨b, (Tm.rows [x]).flatten, .row e 4 c⟩ :: L)) : aapp e 4 56 .nil (.row 4 (Tm.rows [x])) L kl := by
  refine V.a_app0 1 x.cs rows1_src (Tm.cs_one x) (by omega) (by omega) fun b c => ?_
  have := h b c
  rw [Tm.rows_cons, Tm.rows_nil] at this
  simp only [List.flatten_cons, List.flatten_nil, List.append_nil] at this
  exact this
theorem a_appT1 {x y : Tm} {l : List Tm} (i : Nat) (hi : L[i]? = some ⟨b, (Tm.rows (y :: l)).flatten, .row e 4 c⟩) (hb : (l.length + 2) * 56 ≤ 140737488355328)
    (h : ∀ b' c', kl (bvT b' c' (y :: l ++ [x])) (L.set i ⟨b', (Tm.rows (y :: l ++ [x])).flatten, .row e 4 c'⟩)) : aapp e 4 56 (bvT b c (y :: l)) (.row 4 (Tm.rows [x])) L kl := by
  refine V.a_app i _ 1 x.cs hi (by rw [Tm.flat_len]; rfl) rows1_src (Tm.cs_one x) hb fun b' c' => ?_
  have := h b' c'
  have e1 : (Tm.rows (y :: l ++ [x])).flatten = (Tm.rows (y :: l)).flatten ++ x.cs := by
    rw [Tm.rows_app, List.flatten_append, Tm.rows_cons x, Tm.rows_nil]; simp
  rw [e1] at this
  have e2 : bvT b' c' (y :: l ++ [x]) = .sl b' 0 (l.length + 1 + 1) c' := by
    show D.sl b' 0 ((l ++ [x]).length + 1) c' = _
    rw [List.length_append]; rfl
  rw [e2] at this
  exact this
end
theorem sortF_ok {t : Tm} (h : (sortF t).2 = 0) : t.size ≤ 2000 ∧ t.dep ≤ 100 ∧ rightT t 0 = true ∧ (sortF t).1 = (shpAt t.op).sort := by
  rw [sortF_eq] at h ⊢
  split at h
  · cases h
  · next h1 =>
    rw [if_neg h1]
    split at h
    · next h2 => rw [if_pos h2]; exact ⟨by omega, by omega, h2, rfl⟩
    · cases h
end Go.V
